/- Acts on a disk that a caller handed in, as they read. -/
import Derived.Test.YtbgjfdeolckljaaDt
import Derived.Deep.Slices
import Derived.OpenShut
namespace Go.Proofs.Ytbgjfdeolckljaa
set_option linter.unusedVariables false
set_option linter.unusedSimpArgs false
set_option linter.unnecessarySimpa false
section
variable {H : Type} {enc : TypeId × Value → H} {P : Program} {w : World} {base : Nat} {spare : Nat → Bool} {held : Bool}
open Go.Deep
theorem actD_open {e se : TypeId} {f0 f1 f2 f3 f4 : Field} (he : P.underlying e = some (.struct #[f0, f1, f2, f3, f4])) (o0 : f0.offset = 0) (o1 : f1.offset = 1) (o2 : f2.offset = 2) (o3 : f3.offset = 3) (o4 : f4.offset = 4) (u0 : P.underlying f0.type = some (.int .i64)) (u1 : P.underlying f1.type = some (.int .i64)) (u2 : P.underlying f2.type = some (.int .i64)) (u3 : P.underlying f3.type = some (.int .u8)) (u4 : P.underlying f4.type = some (.slice se))
    (c0 : P.cellsOf f0.type = 1) (c1 : P.cellsOf f1.type = 1) (c2 : P.cellsOf f2.type = 1) (c3 : P.cellsOf f3.type = 1) (c4 : P.cellsOf f4.type = 1) : ∀ n cs y, cs.length = 5 → DataW.trod enc P w base spare held n e cs = some y → ∃ q : ActD, cs = actD q := by
  intro n cs y hl h
  obtain ⟨xs, k, hk, hxy, _, hxl, hf⟩ := DataW.trod_struct he h
  match xs, hxl, cs, hl with
  | [y0, y1, y2, y3, y4], _, [v0, v1, v2, v3, v4], _ =>
    have g0 := hf 0 f0 rfl
    have g1 := hf 1 f1 rfl
    have g2 := hf 2 f2 rfl
    have g3 := hf 3 f3 rfl
    have g4 := hf 4 f4 rfl
    simp [o0, o1, o2, o3, o4, c0, c1, c2, c3, c4] at g0 g1 g2 g3 g4
    obtain ⟨a0, e0, _⟩ := DataW.trod_int u0 g0
    obtain ⟨a1, e1, _⟩ := DataW.trod_int u1 g1
    obtain ⟨a2, e2, _⟩ := DataW.trod_int u2 g2
    obtain ⟨a3, e3, _, w3⟩ := DataW.trod_int u3 g3
    obtain ⟨b, hb⟩ := u8_bv a3 (bounds_u8 w3).1 (by have := (bounds_u8 w3).2; omega)
    have e4 : ∃ ao len cap, v4 = .slice ao len cap := by
      rcases open_slice u4 g4 with ⟨h0, _⟩ | ⟨a, len, cap, m, n, D, Pl, hcs, _⟩
      · simp at h0; exact ⟨_, _, _, h0⟩
      · simp at hcs; exact ⟨_, _, _, hcs⟩
    obtain ⟨ao, len, cap, rfl⟩ := e4
    exact ⟨⟨a0, a1, a2, b, ao, len, cap⟩, by simp at e0 e1 e2 e3; rw [e0, e1, e2, e3]; unfold actD; rw [hb]⟩
theorem bool_open {e : TypeId} (u0 : P.underlying e = some .bool) : ∀ n cs y, cs.length = 1 → DataW.trod enc P w base spare held n e cs = some y → ∃ q : Bool, cs = boolRow q := by
  intro n cs y hl h
  obtain ⟨a0, e0, _⟩ := DataW.trod_bool u0 h
  exact ⟨a0, e0⟩
end
end Go.Proofs.Ytbgjfdeolckljaa

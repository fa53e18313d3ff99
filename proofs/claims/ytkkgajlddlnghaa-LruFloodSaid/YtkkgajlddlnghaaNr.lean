/- Calls and keys that a caller handed in, as they read. -/
import Derived.Test.YtkkgajlddlnghaaNe
import Derived.Deep.Slices
namespace Go.Proofs.Ytkkgajlddlnghaa
set_option linter.unusedVariables false
set_option linter.unusedSimpArgs false
set_option linter.unnecessarySimpa false
section
variable {H : Type} {enc : TypeId × Value → H} {P : Program} {w : World} {base : Nat} {spare : Nat → Bool} {held : Bool}
open Go.Deep
theorem act_open {e : TypeId} {f0 f1 f2 : Field} (he : P.underlying e = some (.struct #[f0, f1, f2])) (o0 : f0.offset = 0) (o1 : f1.offset = 1) (o2 : f2.offset = 2) (u0 : P.underlying f0.type = some (.int .i64)) (u1 : P.underlying f1.type = some (.int .i64)) (u2 : P.underlying f2.type = some (.int .i64))
    (c0 : P.cellsOf f0.type = 1) (c1 : P.cellsOf f1.type = 1) (c2 : P.cellsOf f2.type = 1) : ∀ n cs y, cs.length = 3 → DataW.trod enc P w base spare held n e cs = some y → ∃ q : {a : Lr.Act // (Lit.int .i64 a.2.1).wf = true}, cs = actRow q.1 := by
  intro n cs y hl h
  obtain ⟨xs, k, hk, hxy, _, hxl, hf⟩ := DataW.trod_struct he h
  match xs, hxl, cs, hl with
  | [y0, y1, y2], _, [v0, v1, v2], _ =>
    have g0 := hf 0 f0 rfl
    have g1 := hf 1 f1 rfl
    have g2 := hf 2 f2 rfl
    simp [o0, o1, o2, c0, c1, c2] at g0 g1 g2
    obtain ⟨a0, e0, _⟩ := DataW.trod_int u0 g0
    obtain ⟨a1, e1, _, w1⟩ := DataW.trod_int u1 g1
    obtain ⟨a2, e2, _⟩ := DataW.trod_int u2 g2
    exact ⟨⟨(a0, a1, a2), w1⟩, by simp at e0 e1 e2; rw [e0, e1, e2]; rfl⟩
theorem key_open {e : TypeId} (u0 : P.underlying e = some (.int .i64)) : ∀ n cs y, cs.length = 1 → DataW.trod enc P w base spare held n e cs = some y → ∃ q : {a : Int // (Lit.int .i64 a).wf = true}, cs = keyRow q.1 := by
  intro n cs y hl h
  obtain ⟨a0, e0, _, w0⟩ := DataW.trod_int u0 h
  exact ⟨⟨a0, w0⟩, e0⟩
end
end Go.Proofs.Ytkkgajlddlnghaa

/- What the laws are handed: bytes, words. -/
import Derived.Test.YtaidfofcijnbeaaSk
import Derived.OpenShut
namespace Go.Proofs.Ytaidfofcijnbeaa
set_option linter.unusedVariables false
set_option linter.unusedSimpArgs false
set_option linter.unnecessarySimpa false
open Go.RowKit
def byRow (b : BitVec 8) : List Value := [.int .u8 (b.toNat : Int)]
theorem u8_open {H : Type} {enc : TypeId × Value → H} {P : Program} {w : World} {base : Nat} {spare : Nat → Bool} {held : Bool} {e : TypeId} (he : P.underlying e = some (.int .u8)) :
    ∀ n cs y, cs.length = 1 → DataW.trod enc P w base spare held n e cs = some y → ∃ q : BitVec 8, cs = byRow q := by
  intro n cs y _ h
  obtain ⟨m, e1, _, hw⟩ := DataW.trod_int he h
  have h1 := (bounds_u8 hw).1
  have h2 := (bounds_u8 hw).2
  refine ⟨BitVec.ofNat 8 m.toNat, ?_⟩
  rw [e1]
  unfold byRow
  rw [BitVec.toNat_ofNat]
  congr 2
  omega
theorem i64_open {H : Type} {enc : TypeId × Value → H} {P : Program} {w : World} {base : Nat} {spare : Nat → Bool} {held : Bool} {e : TypeId} (he : P.underlying e = some (.int .i64)) :
    ∀ n cs y, cs.length = 1 → DataW.trod enc P w base spare held n e cs = some y → ∃ q : Int, cs = wordRow q := by
  intro n cs y _ h
  obtain ⟨m, e1, _, hw⟩ := DataW.trod_int he h
  exact ⟨m, e1⟩
theorem bs_of {w : World} {v : Value} {l : List (BitVec 8)} (h : ArgS w 1 v (l.map byRow)) : Bs w v l := by
  obtain ⟨ao, cap, rfl, h1, h2, h3⟩ := h
  refine ⟨ao, cap, by simp, by simpa using h1, h2, fun i b hb => ?_⟩
  obtain ⟨a, rfl, hc⟩ := h3 i (byRow b) (by simp [hb])
  refine ⟨a, rfl, ?_⟩
  have := hc 0 (.int .u8 (b.toNat : Int)) rfl
  simpa [Addr.add] using this
end Go.Proofs.Ytaidfofcijnbeaa

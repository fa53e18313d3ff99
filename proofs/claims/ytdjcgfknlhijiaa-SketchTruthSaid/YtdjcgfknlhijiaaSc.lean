/- Adding to a sketch, its age, its count: what they do to the rows. -/
import Derived.Test.YtdjcgfknlhijiaaSb
namespace Go.Proofs.Ytdjcgfknlhijiaa
set_option linter.unusedVariables false
set_option linter.unusedSimpArgs false
set_option linter.unnecessarySimpa false
open Go.RowKit Go.Proofs.YtdjcgfknlhijiaaW.PrintLast
namespace Sk
/-- A key's counter in a row, one more. -/
noncomputable def bump (key : Int) (j : Nat) (p : Row) : Row := (p.1, p.2.set (ixn key j p.2.length) (p.2.getD (ixn key j p.2.length) 0 + 1))
noncomputable def bumped (key : Int) (k : Nat) (R : List Row) : List Row := R.mapIdx fun j p => if j < k then bump key j p else p
def halve (R : List Row) : List Row := R.map fun p => (p.1, p.2.map (· / 2))
/-- Rows as they are: all of one width. -/
structure Shape (wd : Nat) (R : List Row) : Prop where
  some_ : 1 ≤ R.length
  few : R.length ≤ 8
  w1 : 1 ≤ wd
  w2 : wd ≤ 65536
  all : ∀ p ∈ R, p.2.length = wd
def Bd (B : Int) (R : List Row) : Prop := ∀ p ∈ R, ∀ c ∈ p.2, 0 ≤ c ∧ c ≤ B
theorem bumped_zero (key : Int) (R : List Row) : bumped key 0 R = R := by
  apply List.ext_getElem?
  intro i
  simp only [bumped, List.getElem?_mapIdx, Nat.not_lt_zero, if_false]
  cases R[i]? <;> rfl
theorem bumped_length (key : Int) (k : Nat) (R : List Row) : (bumped key k R).length = R.length := by simp [bumped]
theorem bumped_at (key : Int) (k : Nat) (R : List Row) : (bumped key k R)[k]? = R[k]? := by simp [bumped]
theorem bumped_succ (key : Int) (k : Nat) (R : List Row) {p : Row} (h : R[k]? = some p) : (bumped key k R).set k (bump key k p) = bumped key (k + 1) R := by
  apply List.ext_getElem?
  intro i
  rw [List.getElem?_set]
  by_cases e : k = i
  · subst e
    have := (List.getElem?_eq_some_iff.1 h).1
    obtain ⟨_, rfl⟩ := List.getElem?_eq_some_iff.1 h
    simp [bumped, this]
  · rw [if_neg e]
    simp only [bumped, List.getElem?_mapIdx]
    have : i < k ↔ i < k + 1 := by omega
    simp only [this]
theorem bumped_all (key : Int) (R : List Row) : bumped key R.length R = R.mapIdx fun j p => bump key j p := by
  apply List.ext_getElem?
  intro i
  simp only [bumped, List.getElem?_mapIdx]
  by_cases h : i < R.length
  · simp [h]
  · simp [List.getElem?_eq_none (Nat.le_of_not_lt h)]
theorem bumped_mem {key : Int} {k : Nat} {R : List Row} {q : Row} (h : q ∈ bumped key k R) : ∃ p ∈ R, ∃ j : Nat, q = p ∨ q = bump key j p := by
  obtain ⟨i, hi⟩ := List.getElem?_of_mem h
  simp only [bumped, List.getElem?_mapIdx] at hi
  cases hp : R[i]? with
  | none => simp [hp] at hi
  | some p =>
    simp only [hp, Option.map_some, Option.some.injEq] at hi
    refine ⟨p, List.mem_of_getElem? hp, i, ?_⟩
    split at hi
    · right; exact hi.symm
    · left; exact hi.symm
theorem bumped_shape {key : Int} {k wd : Nat} {R : List Row} (h : Shape wd R) : Shape wd (bumped key k R) := by
  refine ⟨by rw [bumped_length]; exact h.some_, by rw [bumped_length]; exact h.few, h.w1, h.w2, fun q hq => ?_⟩
  obtain ⟨p, hp, j, rfl | rfl⟩ := bumped_mem hq
  · exact h.all _ hp
  · simp [bump, h.all _ hp]
theorem bumped_bd {key B : Int} {k : Nat} {R : List Row} (h : Bd B R) (hB : 0 ≤ B) : Bd (B + 1) (bumped key k R) := by
  intro q hq c hc
  obtain ⟨p, hp, j, rfl | rfl⟩ := bumped_mem hq
  · have := h _ hp c hc; omega
  · simp only [bump] at hc
    rcases List.mem_or_eq_of_mem_set hc with hc | rfl
    · have := h _ hp c hc; omega
    · rw [List.getD_eq_getElem?_getD]
      cases hx : p.2[ixn key j p.2.length]? with
      | none => simp; omega
      | some v =>
        have := h _ hp v (List.mem_of_getElem? hx)
        simp; omega
theorem halve_shape {wd : Nat} {R : List Row} (h : Shape wd R) : Shape wd (halve R) := by
  refine ⟨by simpa [halve] using h.some_, by simpa [halve] using h.few, h.w1, h.w2, fun q hq => ?_⟩
  simp only [halve, List.mem_map] at hq
  obtain ⟨p, hp, rfl⟩ := hq
  simpa using h.all _ hp
theorem halve_bd {B : Int} {R : List Row} (h : Bd B R) : Bd B (halve R) := by
  intro q hq c hc
  simp only [halve, List.mem_map] at hq
  obtain ⟨p, hp, rfl⟩ := hq
  simp only [List.mem_map] at hc
  obtain ⟨d, hd, rfl⟩ := hc
  have := h _ hp d hd
  omega
/-- What adding leaves: the number of adds, the rows. -/
def adds (af ad : Int) : Int := if ad + 1 < af then ad + 1 else 0
noncomputable def added (af ad key : Int) (R : List Row) : List Row := if ad + 1 < af then bumped key R.length R else halve (bumped key R.length R)
theorem added_shape {af ad key : Int} {wd : Nat} {R : List Row} (h : Shape wd R) : Shape wd (added af ad key R) := by
  unfold added
  split
  · exact bumped_shape h
  · exact halve_shape (bumped_shape h)
theorem added_bd {af ad key B : Int} {R : List Row} (h : Bd B R) (hB : 0 ≤ B) : Bd (B + 1) (added af ad key R) := by
  unfold added
  split
  · exact bumped_bd h hB
  · exact halve_bd (bumped_bd h hB)
end Sk
end Go.Proofs.Ytdjcgfknlhijiaa

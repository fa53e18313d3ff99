/- Slices that a caller handed in: what reads as these rows of cells. -/
import Derived.Test.YtbgjfdeolckljaaE
import Derived.Deep.Slices
namespace Go.Proofs.Ytbgjfdeolckljaa
set_option linter.unusedVariables false
set_option linter.unusedSimpArgs false
set_option linter.unnecessarySimpa false
/-- A slice that reads as these rows of cells each; their memory is of this world. -/
def ArgS (w : World) (size : Nat) (v : Value) (rows : List (List Value)) : Prop :=
  ∃ (ao : Option Addr) (cap : Nat), v = .slice ao rows.length cap ∧ rows.length ≤ cap ∧ cap ≤ maxLen ∧ ∀ (i : Nat) (vs : List Value), rows[i]? = some vs → ∃ a, ao = some a ∧ ∀ (j : Nat) (x : Value), vs[j]? = some x → w.cell? ((a.add (i * size)).add j) = some x
theorem list_of_fun {α : Type} : ∀ (n : Nat) (p : Nat → α → Prop), (∀ i, i < n → ∃ x, p i x) → ∃ l : List α, l.length = n ∧ ∀ (i : Nat) x, l[i]? = some x → p i x
  | 0, _, _ => ⟨[], rfl, by simp⟩
  | n + 1, p, h => by
    obtain ⟨l, h1, h2⟩ := list_of_fun n p (fun i hi => h i (by omega))
    obtain ⟨x, hx⟩ := h n (by omega)
    refine ⟨l ++ [x], by simp [h1], fun i y hy => ?_⟩
    by_cases e : i < n
    · rw [List.getElem?_append_left (by omega)] at hy
      exact h2 i y hy
    · rw [List.getElem?_append_right (by omega)] at hy
      have hi : i = n := by
        have := (List.getElem?_eq_some_iff.1 hy).1
        simp at this; omega
      subst hi
      rw [h1] at hy
      simp at hy
      exact hy ▸ hx
section
variable {H : Type} {enc : TypeId × Value → H} {P : Program} {w : World} {base : Nat} {spare : Nat → Bool} {held : Bool}
open Go.Deep
/-- A slice whose elements are structs of numbers and bools: 'Q' says what an element's cells are. -/
theorem argS_open {t e : TypeId} {size fuel : Nat} {v : Value} {x : DataW H × List MemPlace} (α : Type) (f : α → List Value) (ht : P.underlying t = some (.slice e)) (hc : P.cellsOf e = size)
    (he : ∀ n cs y, cs.length = size → DataW.trod enc P w base spare held n e cs = some y → ∃ q, cs = f q)
    (h : DataW.trod enc P w base spare held fuel t [v] = some x) : ∃ l : List α, ArgS w size v (l.map f) := by
  rcases open_slice ht h with ⟨h0, _⟩ | ⟨a, len, cap, m, n, D, Pl, hcs, _, hl, hm, hmm, _, hx⟩
  · simp at h0
    exact ⟨[], none, 0, by simpa using h0, by simp, by simp [maxLen], by simp⟩
  · simp at hcs
    have hlm : len ≤ m := by rw [hmm]; split <;> omega
    obtain ⟨l, e1, e2⟩ := list_of_fun len (fun i q => w.cells? base (a.add (i * size)) size = some (f q)) (fun i hi => by
      obtain ⟨cs', k1, k2⟩ := hx i (by omega)
      rw [hc] at k1
      obtain ⟨_, k3, _⟩ := World.cells?_some k1
      obtain ⟨q, rfl⟩ := he n cs' _ k3 k2
      exact ⟨q, k1⟩)
    refine ⟨l, some a, cap, by simpa [e1] using hcs, by simpa [e1] using hl, hm, fun i vs hv => ⟨a, rfl, fun j y hy => ?_⟩⟩
    rw [List.getElem?_map] at hv
    cases hq : l[i]? with
    | none => rw [hq] at hv; cases hv
    | some q =>
      rw [hq] at hv
      simp at hv
      subst hv
      have := e2 i q hq
      obtain ⟨_, k3, k4⟩ := World.cells?_some this
      have hj := (List.getElem?_eq_some_iff.1 hy).1
      rw [k4 j (by omega)]
      simpa using hy
/-- An element that is a struct of two whole numbers. -/
theorem ints2_open {e : TypeId} {f0 f1 : Field} {k0 k1 : IntKind} (he : P.underlying e = some (.struct #[f0, f1])) (o0 : f0.offset = 0) (o1 : f1.offset = 1) (u0 : P.underlying f0.type = some (.int k0)) (u1 : P.underlying f1.type = some (.int k1))
    (c0 : P.cellsOf f0.type = 1) (c1 : P.cellsOf f1.type = 1) : ∀ n cs y, cs.length = 2 → DataW.trod enc P w base spare held n e cs = some y → ∃ q : Int × Int, cs = [.int k0 q.1, .int k1 q.2] := by
  intro n cs y hl h
  obtain ⟨xs, k, hk, hxy, _, hxl, hf⟩ := DataW.trod_struct he h
  match xs, hxl, cs, hl with
  | [y0, y1], _, [v0, v1], _ =>
    have g0 := hf 0 f0 rfl
    have g1 := hf 1 f1 rfl
    simp [o0, o1, c0, c1] at g0 g1
    obtain ⟨a0, e0, _⟩ := DataW.trod_int u0 g0
    obtain ⟨a1, e1, _⟩ := DataW.trod_int u1 g1
    exact ⟨(a0, a1), by simp at e0 e1; rw [e0, e1]⟩
end
end Go.Proofs.Ytbgjfdeolckljaa

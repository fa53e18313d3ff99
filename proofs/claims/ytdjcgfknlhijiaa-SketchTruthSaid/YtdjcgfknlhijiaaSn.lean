/- The reference's sketch: its cells and counts as lists; what a cell has. Plain. -/
import Derived.Test.YtdjcgfknlhijiaaSl
namespace Go.Proofs.Ytdjcgfknlhijiaa
set_option linter.unusedVariables false
set_option linter.unusedSimpArgs false
set_option linter.unnecessarySimpa false
namespace Rs
/-- Where a cell's number stands first. -/
def pos (n : Int) : List Int → Option Nat
  | [] => none
  | c :: l => if c = n then some 0 else (pos n l).map (· + 1)
/-- What a cell has: its count, or 0. -/
def look (n : Int) (cs ns : List Int) : Int := match pos n cs with | some i => ns.getD i 0 | none => 0
theorem pos_lt {n : Int} : ∀ {l : List Int} {i : Nat}, pos n l = some i → i < l.length
  | [], i, h => by cases h
  | c :: l, i, h => by
    unfold pos at h
    split at h
    · injection h with h; subst h; simp
    · cases hp : pos n l with
      | none => rw [hp] at h; cases h
      | some k =>
        rw [hp] at h
        simp at h
        have := pos_lt hp
        simp; omega
theorem pos_get {n : Int} : ∀ {l : List Int} {i : Nat}, pos n l = some i → l[i]? = some n
  | [], i, h => by cases h
  | c :: l, i, h => by
    unfold pos at h
    split at h
    · rename_i e
      injection h with h; subst h; simp [e]
    · cases hp : pos n l with
      | none => rw [hp] at h; cases h
      | some k =>
        rw [hp] at h
        simp at h
        subst h
        simpa using pos_get hp
theorem pos_append {n m : Int} : ∀ (l : List Int), pos n (l ++ [m]) = match pos n l with | some i => some i | none => if m = n then some l.length else none
  | [] => by simp [pos]
  | c :: l => by
    simp only [List.cons_append, pos]
    by_cases e : c = n
    · simp [e]
    · rw [if_neg e, if_neg e, pos_append l]
      cases pos n l with
      | some i => simp
      | none => by_cases h : m = n <;> simp [h]
/-- One more in a cell. -/
def incC (n : Int) (cs : List Int) : List Int := match pos n cs with | some _ => cs | none => cs ++ [n]
def incN (n : Int) (cs ns : List Int) : List Int := match pos n cs with | some i => ns.set i (ns.getD i 0 + 1) | none => ns ++ [1]
theorem inc_length {n : Int} {cs ns : List Int} (h : cs.length = ns.length) : (incC n cs).length = (incN n cs ns).length := by
  unfold incC incN
  cases pos n cs <;> simp [h]
theorem look_inc {n : Int} {cs ns : List Int} (h : cs.length = ns.length) (m : Int) : look m (incC n cs) (incN n cs ns) = look m cs ns + (if m = n then 1 else 0) := by
  unfold look incC incN
  cases hp : pos n cs with
  | some i =>
    simp only []
    have hi := pos_lt hp
    have hg := pos_get hp
    cases hm : pos m cs with
    | none =>
      have : m ≠ n := by intro e; subst e; rw [hp] at hm; cases hm
      simp [this]
    | some k =>
      simp only []
      have hk := pos_get hm
      by_cases e : m = n
      · subst e
        rw [hp] at hm
        injection hm with hm; subst hm
        rw [List.getD_eq_getElem?_getD, List.getElem?_set_self (by omega)]
        simp
      · have : i ≠ k := by intro e2; subst e2; rw [hg] at hk; injection hk with hk; exact e hk.symm
        rw [Sk.getD_set_ne ns this]
        simp [e]
  | none =>
    simp only []
    rw [pos_append]
    cases hm : pos m cs with
    | none =>
      by_cases e : m = n
      · subst e
        simp [h, List.getD_eq_getElem?_getD]
      · have e2 : ¬ n = m := fun x => e x.symm
        simp [e, e2]
    | some k =>
      have hk := pos_lt hm
      have : m ≠ n := by intro e; subst e; rw [hp] at hm; cases hm
      simp only [this, if_false]
      rw [List.getD_eq_getElem?_getD, List.getElem?_append_left (by omega), ← List.getD_eq_getElem?_getD]
      omega
theorem look_halve (m : Int) (cs ns : List Int) : look m cs (ns.map (· / 2)) = look m cs ns / 2 := by
  unfold look
  cases pos m cs with
  | none => rfl
  | some i =>
    simp only [List.getD_eq_getElem?_getD, List.getElem?_map]
    cases ns[i]? <;> simp
/-- The cells and counts say what the rows say. -/
def Same (wd : Nat) (T : List (List Int)) (cs ns : List Int) : Prop := ∀ (j : Nat) (l : List Int), T[j]? = some l → ∀ c : Nat, c < wd → look ((j : Int) * 65536 + c) cs ns = l.getD c 0
end Rs
end Go.Proofs.Ytdjcgfknlhijiaa

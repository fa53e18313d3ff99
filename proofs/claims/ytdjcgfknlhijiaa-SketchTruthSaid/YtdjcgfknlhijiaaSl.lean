/- Of adds alone: their order makes no difference. Plain. -/
import Derived.Test.YtdjcgfknlhijiaaSi
namespace Go.Proofs.Ytdjcgfknlhijiaa
set_option linter.unusedVariables false
set_option linter.unusedSimpArgs false
set_option linter.unnecessarySimpa false
namespace Sk
def tab (R : List Row) : List (List Int) := R.map (·.2)
noncomputable def tbump (key : Int) (j : Nat) (l : List Int) : List Int := l.set (ixn key j l.length) (l.getD (ixn key j l.length) 0 + 1)
noncomputable def tadd (T : List (List Int)) (key : Int) : List (List Int) := T.mapIdx fun j l => tbump key j l
theorem tab_bumped (key : Int) (R : List Row) : tab (bumped key R.length R) = tadd (tab R) key := by
  rw [bumped_all]
  apply List.ext_getElem?
  intro i
  simp only [tab, tadd, List.getElem?_map, List.getElem?_mapIdx, Option.map_map]
  rfl
theorem tab_length (R : List Row) : (tab R).length = R.length := by simp [tab]
theorem vals_tab (key : Int) (R : List Row) : vals key R = (tab R).mapIdx fun j l => l.getD (ixn key j l.length) 0 := by
  apply List.ext_getElem?
  intro i
  simp only [vals, tab, List.getElem?_map, List.getElem?_mapIdx, Option.map_map]
  rfl
theorem count_congr {R R' : List Row} (h : tab R = tab R') (key : Int) : count key R = count key R' := by
  have hl : R.length = R'.length := by rw [← tab_length R, h, tab_length]
  unfold count leastTo
  rw [vals_tab, vals_tab, h, hl]
theorem getD_set_ne (l : List Int) {i j : Nat} (h : i ≠ j) (v : Int) : (l.set i v).getD j 0 = l.getD j 0 := by
  simp only [List.getD_eq_getElem?_getD]
  rw [List.getElem?_set_ne h]
theorem set_getD_comm (l : List Int) (i j : Nat) :
    (l.set i (l.getD i 0 + 1)).set j ((l.set i (l.getD i 0 + 1)).getD j 0 + 1) = (l.set j (l.getD j 0 + 1)).set i ((l.set j (l.getD j 0 + 1)).getD i 0 + 1) := by
  by_cases h : i = j
  · subst h; rfl
  · rw [getD_set_ne l h, getD_set_ne l (fun e => h e.symm), List.set_comm _ _ h]
theorem tbump_comm (a b : Int) (j : Nat) (l : List Int) : tbump b j (tbump a j l) = tbump a j (tbump b j l) := by
  unfold tbump
  simp only [List.length_set]
  exact set_getD_comm l _ _
theorem tadd_comm (T : List (List Int)) (a b : Int) : tadd (tadd T a) b = tadd (tadd T b) a := by
  apply List.ext_getElem?
  intro i
  simp only [tadd, List.getElem?_mapIdx, Option.map_map]
  cases T[i]? with
  | none => rfl
  | some l => simp only [Option.map_some, Function.comp]; rw [tbump_comm]
/-- The keys in the other order. -/
def turned (t : Nat) (K : List Int) : List Int := (List.range K.length).map fun i => K.getD ((K.length - 1 - i + t) % K.length) 0
theorem turned_eq (t : Nat) (K : List Int) : turned t K = (K.take (t % K.length)).reverse ++ (K.drop (t % K.length)).reverse := by
  rcases Nat.eq_zero_or_pos K.length with h0 | h0
  · have : K = [] := List.eq_nil_of_length_eq_zero h0
    subst this; simp [turned]
  have ht : t % K.length < K.length := Nat.mod_lt _ h0
  obtain ⟨s, hs⟩ : ∃ s, t % K.length = s := ⟨_, rfl⟩
  have hm : ∀ i, (K.length - 1 - i + t) % K.length = (K.length - 1 - i + s) % K.length := by
    intro i; rw [← hs, Nat.add_mod, Nat.add_mod (K.length - 1 - i) (t % K.length), Nat.mod_mod]
  rw [hs] at ht ⊢
  apply List.ext_getElem
  · simp [turned]; omega
  · intro i h1 h2
    have hi : i < K.length := by simpa [turned] using h1
    simp only [turned, List.getElem_map, List.getElem_range]
    rw [hm]
    by_cases hc : i < s
    · have e : (K.length - 1 - i + s) % K.length = s - 1 - i := by
        rw [show K.length - 1 - i + s = (s - 1 - i) + K.length by omega, Nat.add_mod_right, Nat.mod_eq_of_lt (by omega)]
      rw [List.getElem_append_left (by simp; omega), e, List.getElem_reverse, List.getElem_take, List.getD_eq_getElem?_getD, List.getElem?_eq_getElem (by omega)]
      simp only [Option.getD_some, List.length_take]
      congr 1
      omega
    · have e : (K.length - 1 - i + s) % K.length = K.length - 1 - i + s := Nat.mod_eq_of_lt (by omega)
      rw [List.getElem_append_right (by simp; omega), e, List.getElem_reverse, List.getElem_drop, List.getD_eq_getElem?_getD, List.getElem?_eq_getElem (by omega)]
      simp only [Option.getD_some, List.length_drop, List.length_reverse, List.length_take]
      congr 1
      omega
theorem turned_perm (t : Nat) (K : List Int) : (turned t K).Perm K := by
  rw [turned_eq]
  have h1 := (List.reverse_perm (K.take (t % K.length))).append (List.reverse_perm (K.drop (t % K.length)))
  rw [List.take_append_drop] at h1
  exact h1
theorem turned_sum (T : List (List Int)) (t : Nat) (K : List Int) : (turned t K).foldl tadd T = K.foldl tadd T :=
  (turned_perm t K).foldl_eq' (fun _ _ _ _ z => tadd_comm z _ _) T
theorem turned_at {t : Nat} {K : List Int} {i : Nat} (h : i < K.length) : (turned t K)[i]? = some (K.getD ((K.length - 1 - i + t) % K.length) 0) := by
  simp [turned, h]
theorem turned_length (t : Nat) (K : List Int) : (turned t K).length = K.length := by simp [turned]
theorem zero_tab {wd : Nat} {R R' : List Row} (h : Zero wd R) (h' : Zero wd R') (hl : R.length = R'.length) : tab R = tab R' := by
  apply List.ext_getElem
  · simpa [tab] using hl
  · intro i h1 h2
    simp only [tab, List.getElem_map]
    rw [h _ (List.getElem_mem _), h' _ (List.getElem_mem _)]
end Sk
end Go.Proofs.Ytdjcgfknlhijiaa

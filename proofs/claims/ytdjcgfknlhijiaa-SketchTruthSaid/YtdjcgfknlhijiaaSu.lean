/- No count is below the truth. Plain. -/
import Derived.Test.YtdjcgfknlhijiaaSs
import Derived.Test.YtdjcgfknlhijiaaSi
namespace Go.Proofs.Ytdjcgfknlhijiaa
set_option linter.unusedVariables false
set_option linter.unusedSimpArgs false
set_option linter.unnecessarySimpa false
namespace Sk
theorem val_bump_ge {key k : Int} {j : Nat} {p : Row} : val k j p ≤ val k j (bump key j p) := by
  unfold val bump
  simp only [List.length_set]
  by_cases e : ixn key j p.2.length = ixn k j p.2.length
  · rw [e]
    rcases Nat.lt_or_ge (ixn k j p.2.length) p.2.length with h | h
    · simp only [List.getD_eq_getElem?_getD]
      rw [List.getElem?_set_self h]
      simp only [Option.getD_some]
      omega
    · rw [List.set_eq_of_length_le h]
      omega
  · rw [getD_set_ne _ e]; omega
/-- Each key that is listed has no counter below its truth. -/
def Cov (B : Int) (R : List Row) (K T : List Int) : Prop := ∀ (i : Nat) (k t : Int), K[i]? = some k → T[i]? = some t → 0 ≤ t ∧ t ≤ B ∧ ∀ (j : Nat) (p : Row), R[j]? = some p → t ≤ val k j p
theorem cov_bump {B key : Int} {R : List Row} {K T : List Int} (h : Cov B R K T) : Cov (B + 1) (bumped key R.length R) K T := by
  intro i k t hk ht
  obtain ⟨h1, h2, h3⟩ := h i k t hk ht
  refine ⟨h1, by omega, fun j p hp => ?_⟩
  rw [bumped_all, List.getElem?_mapIdx] at hp
  cases hq : R[j]? with
  | none => rw [hq] at hp; cases hp
  | some q =>
    rw [hq] at hp
    simp at hp
    subst hp
    exact Int.le_trans (h3 j q hq) val_bump_ge
theorem cov_hit {B key : Int} {wd : Nat} {R : List Row} {K T : List Int} (hS : Shape wd R) (h : Cov B R K T) {i : Nat} {t : Int} (hk : K[i]? = some key) (ht : T[i]? = some t) : Cov (B + 1) (bumped key R.length R) K (T.set i (t + 1)) := by
  intro i' k t' hk' ht'
  rw [List.getElem?_set] at ht'
  by_cases e : i = i'
  · subst e
    rw [hk] at hk'
    injection hk' with hk'
    subst hk'
    rw [if_pos rfl, if_pos (List.getElem?_eq_some_iff.1 ht).1] at ht'
    injection ht' with ht'
    subst ht'
    obtain ⟨h1, h2, h3⟩ := h i key t hk ht
    refine ⟨by omega, by omega, fun j p hp => ?_⟩
    rw [bumped_all, List.getElem?_mapIdx] at hp
    cases hq : R[j]? with
    | none => rw [hq] at hp; cases hp
    | some q =>
      rw [hq] at hp
      simp at hp
      subst hp
      rw [val_bump (hS.all q (List.mem_of_getElem? hq)) hS.w1]
      have := h3 j q hq
      omega
  · rw [if_neg e] at ht'
    exact cov_bump h i' k t' hk' ht'
theorem cov_new {B key : Int} {wd : Nat} {R : List Row} {K T : List Int} (hS : Shape wd R) (hB : Bd B R) (hl : K.length = T.length) (h : Cov B R K T) (h0 : 0 ≤ B) : Cov B R (K ++ [key]) (T ++ [0]) := by
  intro i k t hk ht
  rcases Nat.lt_or_ge i K.length with hi | hi
  · rw [List.getElem?_append_left hi] at hk
    rw [List.getElem?_append_left (by omega)] at ht
    exact h i k t hk ht
  · rw [List.getElem?_append_right hi] at hk
    rw [List.getElem?_append_right (by omega)] at ht
    have h1 : i = K.length := by
      have := (List.getElem?_eq_some_iff.1 hk).1
      simp at this; omega
    subst h1
    rw [hl] at ht
    simp at ht
    subst ht
    refine ⟨by omega, h0, fun j p hp => ?_⟩
    unfold val
    rw [List.getD_eq_getElem?_getD]
    cases hx : p.2[ixn k j p.2.length]? with
    | none => simp
    | some v =>
      have := hB p (List.mem_of_getElem? hp) v (List.mem_of_getElem? hx)
      simp; omega
theorem cov_half {B : Int} {R : List Row} {K T : List Int} (h : Cov B R K T) : Cov B (halve R) K (T.map (· / 2)) := by
  intro i k t hk ht
  rw [List.getElem?_map] at ht
  cases hq : T[i]? with
  | none => rw [hq] at ht; cases ht
  | some u =>
    rw [hq] at ht
    simp at ht
    obtain ⟨h1, h2, h3⟩ := h i k u hk hq
    refine ⟨by omega, by omega, fun j p hp => ?_⟩
    simp only [halve, List.getElem?_map] at hp
    cases hr : R[j]? with
    | none => rw [hr] at hp; cases hp
    | some q =>
      rw [hr] at hp
      simp at hp
      have := h3 j q hr
      have h4 := val_hrow k j q
      unfold hrow at h4
      rw [← hp, h4]
      omega
theorem cov_more {B : Int} {R : List Row} {K T : List Int} (h : Cov B R K T) : Cov (B + 1) R K T := fun i k t hk ht => by
  obtain ⟨h1, h2, h3⟩ := h i k t hk ht
  exact ⟨h1, by omega, h3⟩
theorem count_ge {wd : Nat} {R : List Row} (hS : Shape wd R) {k t : Int} (h : ∀ (j : Nat) (p : Row), R[j]? = some p → t ≤ val k j p) : t ≤ count k R := by
  unfold count
  have h1 := hS.some_
  have key : ∀ n, 1 ≤ n → n ≤ R.length → t ≤ leastTo k R n := by
    intro n
    induction n with
    | zero => intro h; omega
    | succ n ih =>
      intro _ hn
      obtain ⟨p, hp⟩ : ∃ p, R[n]? = some p := ⟨_, List.getElem?_eq_getElem (by omega)⟩
      rw [least_succ hp]
      have h2 := h n p hp
      cases n with
      | zero => rw [least_zero hp]; omega
      | succ n => have := ih (by omega) (by omega); omega
  exact key R.length h1 (Nat.le_refl _)
end Sk
/-- What is so behind each call. -/
structure Tr (rows wd : Nat) (c : Int) (B : Nat) (R : List Row) (K T : List Int) (ad : Int) : Prop where
  shape : Sk.Shape wd R
  bd : Sk.Bd B R
  eq : K.length = T.length
  few : K.length ≤ B
  kb : ∀ k ∈ K, 0 ≤ k ∧ k < 18446744073709551616
  a0 : 0 ≤ ad
  a1 : ad < c
  cov : Sk.Cov B R K T
/-- .. ahead of the halving of the truths, where there is one. -/
structure Tm (wd : Nat) (c : Int) (B : Nat) (R : List Row) (K T : List Int) (ad : Int) (age : Bool) : Prop where
  shape : Sk.Shape wd R
  bd : Sk.Bd B R
  eq : K.length = T.length
  few : K.length ≤ B
  kb : ∀ k ∈ K, 0 ≤ k ∧ k < 18446744073709551616
  a0 : 0 ≤ ad
  a1 : ad ≤ c
  tb : ∀ t ∈ T, 0 ≤ t ∧ t ≤ (B : Int)
  cov : Sk.Cov B R K (if age then T.map (· / 2) else T)
  a2 : age = false → ad < c
end Go.Proofs.Ytdjcgfknlhijiaa

/- A row without one place. -/
import Derived.Test.YtkkgajlddlnghaaMa
namespace Go.Proofs.Ytkkgajlddlnghaa
set_option linter.unusedVariables false
set_option linter.unusedSimpArgs false
set_option linter.unnecessarySimpa false
open Go.RowKit Go.Proofs.YtkkgajlddlnghaaW.PrintLast Lr
theorem add_at (g j : Nat) : (⟨g, 0, none⟩ : Addr).add j = ⟨g, j, none⟩ := by
  unfold Addr.add
  split
  · subst_vars; rfl
  · simp
theorem add_off (g o j : Nat) : (⟨g, o, none⟩ : Addr).add j = ⟨g, o + j, none⟩ := by
  unfold Addr.add
  split
  · subst_vars; simp
  · simp
namespace Lr
theorem news_take (l : List KV) (i j : Nat) (u : Value) (h : ((l.take i).flatMap c2)[j]? = some u) : (l.flatMap c2)[j]? = some u := by
  have e : l.flatMap c2 = (l.take i).flatMap c2 ++ (l.drop i).flatMap c2 := by rw [← List.flatMap_append, List.take_append_drop]
  rw [e, List.getElem?_append_left (List.getElem?_eq_some_iff.1 h).1]; exact h
theorem news_drop (l : List KV) (i j : Nat) (u : Value) (hi : i ≤ l.length) (h : ((l.drop i).flatMap c2)[j]? = some u) : (l.flatMap c2)[i * 2 + j]? = some u := by
  have e : l.flatMap c2 = (l.take i).flatMap c2 ++ (l.drop i).flatMap c2 := by rw [← List.flatMap_append, List.take_append_drop]
  have hl : ((l.take i).flatMap c2).length = i * 2 := by rw [flat2_len, List.length_take]; omega
  rw [e, List.getElem?_append_right (by omega), hl, show i * 2 + j - i * 2 = j by omega]; exact h
theorem c2_one (l : List KV) : ∀ u ∈ l.flatMap c2, u.oneCell' = true := by
  intro u hu
  obtain ⟨x, _, h⟩ := List.mem_flatMap.1 hu
  simp [c2] at h
  rcases h with rfl | rfl <;> rfl
end Lr
theorem Lr.RS.news {w0 w : World} {L E : List Ent} {v : Value} {l : List KV} {ao : Option Addr} {n c : Nat} (h : RS v l E) (hv : v = .slice ao n c) (HO : Own w0 w L) (hm : ∀ x ∈ E, x ∈ L) : ∀ j u, (l.flatMap c2)[j]? = some u → ∃ ad, ao = some ad ∧ w.cell? (ad.add j) = some u := by
  intro j u hj
  cases h with
  | nil h => simp at hj
  | row _ g c h =>
    rw [h] at hv
    injection hv with h1 h2 h3
    subst h1
    exact ⟨_, rfl, by rw [add_at]; exact HO.rowCellM (hm _ (List.mem_singleton.2 rfl)) j hj⟩
set_option maxRecDepth 20000 in
set_option maxHeartbeats 4000000 in
theorem without_any {w0 w : World} {L : List Ent} {g N c : Nat} {l : List KV} (i : Nat) (HO : Own w0 w L) (hm : (g, RowP 50 2 c (l.flatMap c2)) ∈ L) (hN : l.length = N) (hi : i < N) (hl : N ≤ 1000000) :
    Calls Try.prog 38 #[.slice (some ⟨g, 0, none⟩) N c, .int .i64 (i : Int)] w fun e w' => ∃ gq cq, e = .returned (.slice (some ⟨gq, 0, none⟩) (l.eraseIdx i).length cq) ∧ Own w0 w' ((gq, RowP 50 2 cq ((l.eraseIdx i).flatMap c2)) :: L) := by
  have hmx : maxLen = 9223372036854775807 := rfl
  have hw1 : IntKind.i64.wrap ((i : Int) + 1) = ((i + 1 : Nat) : Int) := by rw [IntWalk.i64_in _ (by omega)]; rfl
  have hcap : N ≤ c := by
    obtain ⟨j, hj⟩ := List.getElem?_of_mem hm
    obtain ⟨o, ho, cur, rfl, hp, hc, hmx⟩ := HO.at_i j hj
    have h1 := hp.length_le
    have h2 : cur.toList.length = cur.size := by simp
    rw [flat2_len, h2, hc, hN] at h1
    omega
  have hA : (0 : Int) ≤ (i : Int) := by omega
  have hB : (i : Int) ≤ (c : Int) := by omega
  have hC : (0 : Int) ≤ (i : Int) + 1 := by omega
  have hD : (i : Int) + 1 ≤ (N : Int) := by omega
  go_enter Try.func38, Try.ntmps38
  go_upto_region 1 with (fail)
  refine start_ (n := 11) (S := fun w' => True) (ds := []) #[false, false, false, false, false, false, false, false, false, false, false] (by kernel_rfl) rfl rfl trivial (fun hHeld => ?_)
  replace HO := HO.drew
  refine pure_ (i := 1) (N := some 6) (v := ?_) (a' := ?_) #[false, true, false, false, false, false, false, false, false, false, false] rfl rfl (by kernel_rfl) (fun _ _ _ h => h) (Or.inl ⟨by rfl, ?_⟩) ?_ ?_
  rotate_left
  · intro w'
    go_simp
    with_reducible rfl
  rotate_left
  · simp only [Act.put, List.setIfInBounds_toArray, List.set_cons_zero, List.set_cons_succ, i64_w, i32_w]
    rfl
  refine pure_ (i := 2) (N := some 7) (v := ?_) (a' := ?_) #[false, true, true, false, false, false, false, false, false, false, false] rfl rfl (by kernel_rfl) (fun _ _ _ h => h) (Or.inl ⟨by rfl, ?_⟩) ?_ ?_
  rotate_left
  · intro w'
    go_simp
    with_reducible rfl
  rotate_left
  · simp only [Act.put, List.setIfInBounds_toArray, List.set_cons_zero, List.set_cons_succ, i64_w, i32_w]
    rfl
  refine pure_ (i := 3) (N := some 8) (v := ?_) (a' := ?_) #[false, true, true, true, false, false, false, false, false, false, false] rfl rfl (by kernel_rfl) (fun _ _ _ h => h) (Or.inl ⟨by rfl, ?_⟩) ?_ ?_
  rotate_left
  · intro w'
    go_simp
    with_reducible rfl
  rotate_left
  · simp only [Act.put, List.setIfInBounds_toArray, List.set_cons_zero, List.set_cons_succ, i64_w, i32_w]
    rfl
  refine pure_ (i := 5) (N := some 10) (v := ?_) (a' := ?_) #[false, true, true, true, false, true, false, false, false, false, false] rfl rfl (by kernel_rfl) (fun _ _ _ h => h) (Or.inl ⟨by rfl, ?_⟩) ?_ ?_
  rotate_left
  · intro w'
    go_simp
    with_reducible rfl
  rotate_left
  · simp only [Act.put, List.setIfInBounds_toArray, List.set_cons_zero, List.set_cons_succ, i64_w, i32_w]
    rfl
  refine pure_ (i := 6) (N := some 11) (v := ?_) (a' := ?_) #[false, true, true, true, false, true, true, false, false, false, false] rfl rfl (by kernel_rfl) (fun _ _ _ h => h) (Or.inl ⟨by rfl, ?_⟩) ?_ ?_
  rotate_left
  · intro w'
    go_simp
    with_reducible rfl
  rotate_left
  · simp only [Act.put, List.setIfInBounds_toArray, List.set_cons_zero, List.set_cons_succ, i64_w, i32_w]
    rfl
  refine pure_ (i := 7) (N := some 12) (v := ?_) (a' := ?_) #[false, true, true, true, false, true, true, true, false, false, false] rfl rfl (by kernel_rfl) (fun _ _ _ h => h) (Or.inl ⟨by rfl, ?_⟩) ?_ ?_
  rotate_left
  · intro w'
    go_simp
    with_reducible rfl
  rotate_left
  · simp only [Act.put, List.setIfInBounds_toArray, List.set_cons_zero, List.set_cons_succ, i64_w, i32_w]
    rfl
  refine pure_ (i := 8) (N := some 13) (v := ?_) (a' := ?_) #[false, true, true, true, false, true, true, true, true, false, false] rfl rfl (by kernel_rfl) (fun _ _ _ h => h) (Or.inl ⟨by rfl, ?_⟩) ?_ ?_
  rotate_left
  · intro w'
    go_simp
    with_reducible rfl
  rotate_left
  · simp only [Act.put, List.setIfInBounds_toArray, List.set_cons_zero, List.set_cons_succ, i64_w, i32_w]
    rfl
  refine one_ (i := 0) (N := some 5) #[true, true, true, true, false, true, true, true, true, false, false] rfl rfl (by kernel_rfl) (by decide) (fun K hK => ?_)
  refine st_bslice 30 2 rfl rfl (by go_simp; rfl) rfl (by decide) HO ?_
  clear HO
  intro gn wn HO
  refine hK.out _ _ trivial (fun hHeld => ?_)
  clear hK K
  refine norm_ (a' := ?_) ?_ ?_
  rotate_left
  · show Act.put _ (some 5) _ = _
    simp only [Act.put, List.setIfInBounds_toArray, List.set_cons_zero, List.set_cons_succ, i64_w, i32_w]
    rfl
  refine one_ (i := 4) (N := some 9) #[true, true, true, true, true, true, true, true, true, false, false] rfl rfl (by kernel_rfl) (by decide) (fun K hK => ?_)
  refine st_append_any 0 el30 rfl rfl (n := 0) rfl HO rfl rfl rfl (news := (l.take i).flatMap c2) (by rw [flat2_len, List.length_take, hN]; omega) (fun j u hj => ⟨_, rfl, by rw [add_at]; exact HO.rowCellM (List.mem_cons_of_mem _ hm) j (news_take l i j u hj)⟩) (c2_one _) (by omega) (by omega) ?_
  clear HO
  intro gq cq wq hcq HO
  simp only [List.nil_append, List.eraseIdx_cons_zero] at HO
  refine hK.out _ _ trivial (fun hHeld => ?_)
  clear hK K
  refine norm_ (a' := ?_) ?_ ?_
  rotate_left
  · show Act.put _ (some 9) _ = _
    simp only [Act.put, List.setIfInBounds_toArray, List.set_cons_zero, List.set_cons_succ, i64_w, i32_w]
    rfl
  refine one_ (i := 9) (N := some 14) #[true, true, true, true, true, true, true, true, true, true, false] rfl rfl (by kernel_rfl) (by decide) (fun K hK => ?_)
  refine st_append_any 0 el30 rfl rfl rfl HO rfl (by rw [flat2_len, List.length_take, hN]; omega) rfl (news := (l.drop (i + 1)).flatMap c2) (by rw [flat2_len, List.length_drop, hN]) (fun j u hj => (by have hj2 := (List.getElem?_eq_some_iff.1 hj).1; rw [flat2_len, List.length_drop, hN] at hj2; rw [if_neg (by omega)]; exact ⟨_, rfl, by rw [add_off]; exact HO.rowCellM (List.mem_cons_of_mem _ hm) _ (news_drop l (i + 1) j u (by omega) hj)⟩)) (c2_one _) (by omega) (by omega) ?_
  clear HO
  intro gr cr wr hcr HO
  simp only [List.eraseIdx_cons_zero] at HO
  refine hK.out _ _ trivial (fun hHeld => ?_)
  clear hK K
  refine norm_ (a' := ?_) ?_ ?_
  rotate_left
  · show Act.put _ (some 14) _ = _
    simp only [Act.put, List.setIfInBounds_toArray, List.set_cons_zero, List.set_cons_succ, i64_w, i32_w]
    rfl
  refine pure_ (i := 10) (N := some 4) (v := ?_) (a' := ?_) #[true, true, true, true, true, true, true, true, true, true, true] rfl rfl (by kernel_rfl) (fun _ _ _ h => h) (Or.inl ⟨by rfl, ?_⟩) ?_ ?_
  rotate_left
  · intro w'
    go_simp
    with_reducible rfl
  rotate_left
  · simp only [Act.put, List.setIfInBounds_toArray, List.set_cons_zero, List.set_cons_succ, i64_w, i32_w]
    rfl
  refine done_ (by kernel_rfl) ?_
  rw [← List.flatMap_append, ← List.eraseIdx_eq_take_drop_succ] at HO
  have e := Lib.hid (show i + (N - (i + 1)) = (l.eraseIdx i).length by rw [List.length_eraseIdx, hN, if_pos hi]; omega)
  go_wp2_with (fail)
  all_goals (go_ret; exact ⟨_, _, by rw [← e.out]; rfl, HO⟩)
end Go.Proofs.Ytkkgajlddlnghaa

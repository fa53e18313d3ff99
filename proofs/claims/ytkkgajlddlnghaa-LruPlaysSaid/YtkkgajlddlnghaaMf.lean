/- The document's list: Touch. -/
import Derived.Test.YtkkgajlddlnghaaMe
namespace Go.Proofs.Ytkkgajlddlnghaa
set_option linter.unusedVariables false
set_option linter.unusedSimpArgs false
set_option linter.unnecessarySimpa false
open Go.RowKit Go.Proofs.YtkkgajlddlnghaaW.PrintLast Lr
theorem flat_snoc2 (l : List KV) (x : KV) : [] ++ l.flatMap c2 ++ [Value.int .i64 x.1, .int .i64 x.2] = (l ++ [x]).flatMap c2 := flat_snoc l x.1 x.2
set_option maxRecDepth 20000 in
set_option maxHeartbeats 16000000 in
theorem RTouch_any {w0 w : World} {L : List Ent} {m c : Nat} {s : S} (k : Int) (HR : Rw w0 w L m s) (K : Ok s c) (hc : c ≤ 100000) :
    Calls Try.prog 30 #[.pointer (some ⟨m, 0, none⟩), .int .i64 k] w fun e w' => e = .returned (.bool (isIn s k)) ∧ Rw w0 w' L m (touched s k) := by
  have hcl : (all s).length ≤ 100000 := Nat.le_trans K.len hc
  have hmx : maxLen = 9223372036854775807 := rfl
  cases ht : take s k with
  | none =>
    have hi := take_none.1 ht
    have hs : touched s k = s := by unfold touched; rw [ht]
    rw [hi, hs]
    have F := Lib.hid (RTake_none k HR hcl ht)
    clear hi hs ht K
    go_enter Try.func30, Try.ntmps30
    go_wp2_with (fail)
    go_at_call 37; refine F.out.mono ?_; rintro e w2 ⟨rfl, vt, vk, Et, Ek, hT, hK, HO⟩
    unfold pv
    go_wp2_with (first | (refine li_alloc (t := 50) rfl rfl (z := .agg #[.int .i64 0, .int .i64 0]) (cs := [.int .i64 0, .int .i64 0]) (by kernel_rfl) rfl HO ?_; clear HO; intro ga wa HO) | (refine li_storeAgg 0 50 rfl rfl rfl rfl HO rfl rfl rfl rfl (by kernel_rfl) ?_; clear HO; intro ws HO; simp only [List.set_cons_zero] at HO))
    go_ret
    exact ⟨rfl, vt, vk, Et, Ek, hT, hK, HO.tail⟩
  | some p =>
    obtain ⟨⟨x1, x2⟩, s1⟩ := p
    have hi : isIn s k = true := by
      cases h : isIn s k with
      | true => rfl
      | false => rw [take_none.2 h] at ht; cases ht
    have hs : touched s k = { s1 with trial := (Lr.settle s.most s1.trial (s1.kept ++ [(x1, x2)])).1, kept := (Lr.settle s.most s1.trial (s1.kept ++ [(x1, x2)])).2 } := by unfold touched; rw [ht]
    have hm : s1.most = s.most := (take_some ht).2.1
    rw [hi, hs]
    have F := Lib.hid (RTake_some k HR hcl ht)
    obtain ⟨K1, hl1⟩ := taken_ok K ht
    have hx := (perm_take ht).mem_iff.2 (List.mem_cons_self ..)
    have hxb := K.by_ _ hx
    have hbd := Lib.hid (show (s1.trial ++ (s1.kept ++ [(x1, x2)])).length ≤ 100001 ∧ ∀ y ∈ s1.trial ++ (s1.kept ++ [(x1, x2)]), 1 ≤ y.2 ∧ y.2 ≤ 1099511627776 from ⟨by
      have h1 := hl1; have h2 := hcl; unfold all at h1 h2; simp at h1 h2 ⊢; omega, fun y hy => by
      rcases List.mem_append.1 hy with hy | hy
      · exact K1.by_ y (all_mem.2 (.inl hy))
      · rcases List.mem_append.1 hy with hy | hy
        · exact K1.by_ y (all_mem.2 (.inr hy))
        · simp at hy; rw [hy]; exact hxb⟩)
    have hlk : s1.kept.length ≤ 100000 := by unfold all at hl1; simp at hl1; unfold all at hcl; simp at hcl; omega
    have h0 := K.m0
    obtain ⟨M, hM⟩ : ∃ M, s.most = M := ⟨_, rfl⟩
    rw [hM] at hm h0 ⊢
    have HM1 := Lib.hid hm
    have H0 := Lib.hid h0
    clear hi hs ht K K1 hl1 hx hxb hm h0 hM HR
    go_enter Try.func30, Try.ntmps30
    go_wp2_with (fail)
    go_at_call 37; refine F.out.mono ?_; rintro e w2 ⟨rfl, vt, vk, Et, Ek, hT, hK, HO⟩
    rw [HM1.out] at HO
    unfold pv
    obtain ⟨aoK, cK, hvK, _, _, _⟩ := hK.rd HO (fun x hx => by simp [hx])
    have HT := Lib.hid hT
    have HKe := Lib.hid hK
    have NK := Lib.hid (show ∀ w' A, Own w0 w' (A ++ ((m, CellsP 32 [.int .i64 M, vt, vk]) :: (Et ++ (Ek ++ L)))) → ∀ j u, (s1.kept.flatMap c2)[j]? = some u → ∃ ad, aoK = some ad ∧ w'.cell? (ad.add j) = some u from fun w' A H => hK.news hvK H (fun x hx => by simp [hx]))
    obtain ⟨N, hN⟩ : ∃ N, s1.kept.length = N := ⟨_, rfl⟩
    rw [hN] at hvK hlk
    subst hvK
    have LB := Lib.hid (show (s1.kept.flatMap c2).length = N * 2 by rw [flat2_len, hN])
    have H1 := Lib.hid (show 0 + N ≤ maxLen by omega)
    have H2 := Lib.hid (show (0 + N) * 16 ≤ 140737488355328 by omega)
    have H3 := Lib.hid (show 0 + N + 1 ≤ maxLen by omega)
    have H4 := Lib.hid (show (0 + N + 1) * 16 ≤ 140737488355328 by omega)
    have LK0 := Lib.hid (show ([] ++ s1.kept.flatMap c2).length = (0 + N) * 2 by rw [List.nil_append, flat2_len, hN]; omega)
    have HN := Lib.hid (show (s1.kept ++ [(x1, x2)]).length = N + 1 by rw [List.length_append, hN]; simp)
    clear hT hK hN hlk F
    go_upto_region 4 with (first | (refine li_alloc (t := 50) rfl rfl (z := .agg #[.int .i64 0, .int .i64 0]) (cs := [.int .i64 0, .int .i64 0]) (by kernel_rfl) rfl HO ?_; clear HO; intro ga wa HO) | (refine li_storeAgg 0 50 rfl rfl rfl rfl HO rfl rfl rfl rfl (by kernel_rfl) ?_; clear HO; intro ws HO; simp only [List.set_cons_zero] at HO))
    refine start_ (n := 13) (S := fun w' => w'.cell? ⟨m, 2, none⟩ = some (.slice aoK N cK) ∧ w'.cell? ⟨ga, 0, none⟩ = some (.int .i64 x1) ∧ w'.cell? ⟨ga, 1, none⟩ = some (.int .i64 x2)) (ds := [12]) #[false, false, false, false, false, false, false, false, false, false, false, false, false] (by kernel_rfl) rfl rfl ⟨(HO.drew.cellsM (t := 32) (xs := [.int .i64 M, vt, .slice aoK N cK]) (by simp) 2 rfl), (HO.drew.cellsM (t := 50) (xs := [.int .i64 x1, .int .i64 x2]) (by simp) 0 rfl), (HO.drew.cellsM (t := 50) (xs := [.int .i64 x1, .int .i64 x2]) (by simp) 1 rfl)⟩ (fun hHeld => ?_)
    replace HO := HO.drew
    refine pure_ (i := 0) (N := some 15) (v := ?_) (a' := ?_) #[true, false, false, false, false, false, false, false, false, false, false, false, false] rfl rfl (by kernel_rfl) (fun _ _ _ h => h) (Or.inl ⟨by rfl, ?_⟩) ?_ ?_
    rotate_left
    · intro w'
      go_simp
      with_reducible rfl
    rotate_left
    · simp only [Act.put, List.setIfInBounds_toArray, List.set_cons_zero, List.set_cons_succ, i64_w, i32_w]
      rfl
    refine pure_ (i := 2) (N := some 17) (v := ?_) (a' := ?_) #[true, false, true, false, false, false, false, false, false, false, false, false, false] rfl rfl (by kernel_rfl) (fun _ _ _ h => h) (Or.inl ⟨by rfl, ?_⟩) ?_ ?_
    rotate_left
    · intro w'
      go_simp
      with_reducible rfl
    rotate_left
    · simp only [Act.put, List.setIfInBounds_toArray, List.set_cons_zero, List.set_cons_succ, i64_w, i32_w]
      rfl
    refine pure_ (i := 3) (N := some 18) (v := ?_) (a' := ?_) #[true, false, true, true, false, false, false, false, false, false, false, false, false] rfl rfl (by kernel_rfl) (fun _ _ _ h => h) (Or.inl ⟨by rfl, ?_⟩) ?_ ?_
    rotate_left
    · intro w'
      go_simp
      with_reducible rfl
    rotate_left
    · simp only [Act.put, List.setIfInBounds_toArray, List.set_cons_zero, List.set_cons_succ, i64_w, i32_w]
      rfl
    refine pure_ (i := 4) (N := some 19) (v := ?_) (a' := ?_) #[true, false, true, true, true, false, false, false, false, false, false, false, false] rfl rfl (by kernel_rfl) (fun _ _ _ h => h) (Or.inl ⟨by rfl, ?_⟩) ?_ ?_
    rotate_left
    · intro w'
      go_simp
      with_reducible rfl
    rotate_left
    · simp only [Act.put, List.setIfInBounds_toArray, List.set_cons_zero, List.set_cons_succ, i64_w, i32_w]
      rfl
    refine take_ (i := 5) (N := some 20) (v := ?_) (a' := ?_) #[true, false, true, true, true, true, false, false, false, false, false, false, false] rfl rfl (by kernel_rfl) (fun _ _ _ h => h) (Or.inl ⟨by rfl, ?_⟩) hHeld ?_ ?_
    rotate_left
    · rintro w' ⟨s0, s1, s2⟩
      go_simp
      with_reducible rfl
    rotate_left
    · simp only [Act.put, List.setIfInBounds_toArray, List.set_cons_zero, List.set_cons_succ, i64_w, i32_w]
      rfl
    refine take_ (i := 7) (N := some 22) (v := ?_) (a' := ?_) #[true, false, true, true, true, true, false, true, false, false, false, false, false] rfl rfl (by kernel_rfl) (fun _ _ _ h => h) (Or.inl ⟨by rfl, ?_⟩) hHeld ?_ ?_
    rotate_left
    · rintro w' ⟨s0, s1, s2⟩
      go_simp
      with_reducible rfl
    rotate_left
    · simp only [Act.put, List.setIfInBounds_toArray, List.set_cons_zero, List.set_cons_succ, i64_w, i32_w]
      rfl
    refine join_ (σ := Nat × Nat × Nat × Nat) 4 #[true, true, true, true, true, true, true, true, true, false, false, false, false] (fun s => [(16, .slice (some ⟨s.1, 0, none⟩) 0 0), (21, .slice (some ⟨s.2.1, 0, none⟩) (0 + N) s.2.2.1), (23, .slice (some ⟨s.2.2.2, 0, none⟩) 1 1)]) (fun s w' => Own w0 w' ((s.2.2.2, RowP 50 2 1 [.int .i64 x1, .int .i64 x2]) :: (s.2.1, RowP 50 2 s.2.2.1 ([] ++ s1.kept.flatMap c2)) :: (ga, CellsP 50 [.int .i64 x1, .int .i64 x2]) :: (m, CellsP 32 [.int .i64 M, vt, .slice aoK N cK]) :: (Et ++ (Ek ++ L)))) ?_ ?_
    rotate_left
    · intro hCont
      refine two_ (i := 1) (j := 8) (Ni := some 16) (Nj := some 23) #[true, true, true, true, true, true, false, true, false, false, false, false, false] #[true, false, true, true, true, true, false, true, true, false, false, false, false] rfl rfl rfl rfl (by kernel_rfl) (by decide) (by decide) (fun K hK => ?_) (fun K hK => ?_)
      · skip
        refine st_bslice 30 2 rfl rfl (by go_simp; rfl) rfl (by decide) HO ?_
        clear HO
        intro gn wn HO
        refine hK.out _ _ ⟨(HO.cellsM (t := 32) (xs := [.int .i64 M, vt, .slice aoK N cK]) (by simp) 2 rfl), (HO.cellsM (t := 50) (xs := [.int .i64 x1, .int .i64 x2]) (by simp) 0 rfl), (HO.cellsM (t := 50) (xs := [.int .i64 x1, .int .i64 x2]) (by simp) 1 rfl)⟩ (fun hHeld => ?_)
        clear hK K
        refine norm_ (a' := ?_) ?_ ?_
        rotate_left
        · show Act.put _ (some 16) _ = _
          simp only [Act.put, List.setIfInBounds_toArray, List.set_cons_zero, List.set_cons_succ, i64_w, i32_w]
          rfl
        refine two_ (i := 6) (j := 8) (Ni := some 21) (Nj := some 23) #[true, true, true, true, true, true, true, true, false, false, false, false, false] #[true, true, true, true, true, true, false, true, true, false, false, false, false] rfl rfl rfl rfl (by kernel_rfl) (by decide) (by decide) (fun K hK => ?_) (fun K hK => ?_)
        · skip
          refine st_append_any 0 el30 rfl rfl (n := 0) rfl HO rfl rfl rfl (news := s1.kept.flatMap c2) LB.out (NK.out _ [_, _] HO) (c2_one _) H1.out H2.out ?_
          clear HO
          intro gq cq wq hcq HO
          simp only [List.eraseIdx_cons_zero, List.eraseIdx_cons_succ] at HO
          refine hK.out _ _ ⟨(HO.cellsM (t := 32) (xs := [.int .i64 M, vt, .slice aoK N cK]) (by simp) 2 rfl), (HO.cellsM (t := 50) (xs := [.int .i64 x1, .int .i64 x2]) (by simp) 0 rfl), (HO.cellsM (t := 50) (xs := [.int .i64 x1, .int .i64 x2]) (by simp) 1 rfl)⟩ (fun hHeld => ?_)
          clear hK K
          refine norm_ (a' := ?_) ?_ ?_
          rotate_left
          · show Act.put _ (some 21) _ = _
            simp only [Act.put, List.setIfInBounds_toArray, List.set_cons_zero, List.set_cons_succ, i64_w, i32_w]
            rfl
          refine one_ (i := 8) (N := some 23) #[true, true, true, true, true, true, true, true, true, false, false, false, false] rfl rfl (by kernel_rfl) (by decide) (fun K hK => ?_)
          refine st_bslice 30 2 rfl rfl (by go_simp; rfl) rfl (by decide) HO ?_
          clear HO
          intro gb wb HO
          refine hK.out _ _ ⟨(HO.cellsM (t := 32) (xs := [.int .i64 M, vt, .slice aoK N cK]) (by simp) 2 rfl), (HO.cellsM (t := 50) (xs := [.int .i64 x1, .int .i64 x2]) (by simp) 0 rfl), (HO.cellsM (t := 50) (xs := [.int .i64 x1, .int .i64 x2]) (by simp) 1 rfl)⟩ (fun hHeld => ?_)
          clear hK K
          refine norm_ (a' := ?_) ?_ ?_
          rotate_left
          · show Act.put _ (some 23) _ = _
            simp only [Act.put, List.setIfInBounds_toArray, List.set_cons_zero, List.set_cons_succ, i64_w, i32_w]
            rfl
          exact norm_ (by simp only [putAll, Act.put, List.setIfInBounds_toArray, List.set_cons_zero, List.set_cons_succ]) (hCont (gn, gq, cq, gb) _ HO)
        · skip
          refine st_bslice 30 2 rfl rfl (by go_simp; rfl) rfl (by decide) HO ?_
          clear HO
          intro gb wb HO
          refine hK.out _ _ ⟨(HO.cellsM (t := 32) (xs := [.int .i64 M, vt, .slice aoK N cK]) (by simp) 2 rfl), (HO.cellsM (t := 50) (xs := [.int .i64 x1, .int .i64 x2]) (by simp) 0 rfl), (HO.cellsM (t := 50) (xs := [.int .i64 x1, .int .i64 x2]) (by simp) 1 rfl)⟩ (fun hHeld => ?_)
          clear hK K
          refine norm_ (a' := ?_) ?_ ?_
          rotate_left
          · show Act.put _ (some 23) _ = _
            simp only [Act.put, List.setIfInBounds_toArray, List.set_cons_zero, List.set_cons_succ, i64_w, i32_w]
            rfl
          refine one_ (i := 6) (N := some 21) #[true, true, true, true, true, true, true, true, true, false, false, false, false] rfl rfl (by kernel_rfl) (by decide) (fun K hK => ?_)
          refine st_append_any 1 el30 rfl rfl (n := 0) rfl HO rfl rfl rfl (news := s1.kept.flatMap c2) LB.out (NK.out _ [_, _, _] HO) (c2_one _) H1.out H2.out ?_
          clear HO
          intro gq cq wq hcq HO
          simp only [List.eraseIdx_cons_zero, List.eraseIdx_cons_succ] at HO
          refine hK.out _ _ ⟨(HO.cellsM (t := 32) (xs := [.int .i64 M, vt, .slice aoK N cK]) (by simp) 2 rfl), (HO.cellsM (t := 50) (xs := [.int .i64 x1, .int .i64 x2]) (by simp) 0 rfl), (HO.cellsM (t := 50) (xs := [.int .i64 x1, .int .i64 x2]) (by simp) 1 rfl)⟩ (fun hHeld => ?_)
          clear hK K
          refine norm_ (a' := ?_) ?_ ?_
          rotate_left
          · show Act.put _ (some 21) _ = _
            simp only [Act.put, List.setIfInBounds_toArray, List.set_cons_zero, List.set_cons_succ, i64_w, i32_w]
            rfl
          exact norm_ (by simp only [putAll, Act.put, List.setIfInBounds_toArray, List.set_cons_zero, List.set_cons_succ]) (hCont (gn, gq, cq, gb) _ (HO.perm (List.Perm.swap _ _ _)))
      · skip
        refine st_bslice 30 2 rfl rfl (by go_simp; rfl) rfl (by decide) HO ?_
        clear HO
        intro gb wb HO
        refine hK.out _ _ ⟨(HO.cellsM (t := 32) (xs := [.int .i64 M, vt, .slice aoK N cK]) (by simp) 2 rfl), (HO.cellsM (t := 50) (xs := [.int .i64 x1, .int .i64 x2]) (by simp) 0 rfl), (HO.cellsM (t := 50) (xs := [.int .i64 x1, .int .i64 x2]) (by simp) 1 rfl)⟩ (fun hHeld => ?_)
        clear hK K
        refine norm_ (a' := ?_) ?_ ?_
        rotate_left
        · show Act.put _ (some 23) _ = _
          simp only [Act.put, List.setIfInBounds_toArray, List.set_cons_zero, List.set_cons_succ, i64_w, i32_w]
          rfl
        refine one_ (i := 1) (N := some 16) #[true, true, true, true, true, true, false, true, true, false, false, false, false] rfl rfl (by kernel_rfl) (by decide) (fun K hK => ?_)
        refine st_bslice 30 2 rfl rfl (by go_simp; rfl) rfl (by decide) HO ?_
        clear HO
        intro gn wn HO
        refine hK.out _ _ ⟨(HO.cellsM (t := 32) (xs := [.int .i64 M, vt, .slice aoK N cK]) (by simp) 2 rfl), (HO.cellsM (t := 50) (xs := [.int .i64 x1, .int .i64 x2]) (by simp) 0 rfl), (HO.cellsM (t := 50) (xs := [.int .i64 x1, .int .i64 x2]) (by simp) 1 rfl)⟩ (fun hHeld => ?_)
        clear hK K
        refine norm_ (a' := ?_) ?_ ?_
        rotate_left
        · show Act.put _ (some 16) _ = _
          simp only [Act.put, List.setIfInBounds_toArray, List.set_cons_zero, List.set_cons_succ, i64_w, i32_w]
          rfl
        refine one_ (i := 6) (N := some 21) #[true, true, true, true, true, true, true, true, true, false, false, false, false] rfl rfl (by kernel_rfl) (by decide) (fun K hK => ?_)
        refine st_append_any 0 el30 rfl rfl (n := 0) rfl HO rfl rfl rfl (news := s1.kept.flatMap c2) LB.out (NK.out _ [_, _, _] HO) (c2_one _) H1.out H2.out ?_
        clear HO
        intro gq cq wq hcq HO
        simp only [List.eraseIdx_cons_zero, List.eraseIdx_cons_succ] at HO
        refine hK.out _ _ ⟨(HO.cellsM (t := 32) (xs := [.int .i64 M, vt, .slice aoK N cK]) (by simp) 2 rfl), (HO.cellsM (t := 50) (xs := [.int .i64 x1, .int .i64 x2]) (by simp) 0 rfl), (HO.cellsM (t := 50) (xs := [.int .i64 x1, .int .i64 x2]) (by simp) 1 rfl)⟩ (fun hHeld => ?_)
        clear hK K
        refine norm_ (a' := ?_) ?_ ?_
        rotate_left
        · show Act.put _ (some 21) _ = _
          simp only [Act.put, List.setIfInBounds_toArray, List.set_cons_zero, List.set_cons_succ, i64_w, i32_w]
          rfl
        exact norm_ (by simp only [putAll, Act.put, List.setIfInBounds_toArray, List.set_cons_zero, List.set_cons_succ]) (hCont (gn, gq, cq, gb) _ (HO.perm (List.Perm.swap _ _ _)))
    rintro ⟨gn, gq, cq, gb⟩ w1 HO
    dsimp only at HO
    have hHeld : w1.cell? ⟨m, 2, none⟩ = some (.slice aoK N cK) ∧ w1.cell? ⟨ga, 0, none⟩ = some (.int .i64 x1) ∧ w1.cell? ⟨ga, 1, none⟩ = some (.int .i64 x2) := ⟨(HO.cellsM (t := 32) (xs := [.int .i64 M, vt, .slice aoK N cK]) (by simp) 2 rfl), (HO.cellsM (t := 50) (xs := [.int .i64 x1, .int .i64 x2]) (by simp) 0 rfl), (HO.cellsM (t := 50) (xs := [.int .i64 x1, .int .i64 x2]) (by simp) 1 rfl)⟩
    refine norm_ (a' := ?_) ?_ ?_
    rotate_left
    · simp only [putAll, Act.put, List.setIfInBounds_toArray, List.set_cons_zero, List.set_cons_succ]
      rfl
    refine one_ (i := 9) (N := some 24) #[true, true, true, true, true, true, true, true, true, true, false, false, false] rfl rfl (by kernel_rfl) (by decide) (fun K hK => ?_)
    refine st_append_row1 0 el30 rfl rfl rfl HO rfl LK0.out rfl rfl rfl (by decide) H3.out H4.out ?_
    clear HO
    intro gr cr wr hcr HO
    simp only [List.eraseIdx_cons_zero] at HO
    refine hK.out _ _ ⟨(HO.cellsM (t := 32) (xs := [.int .i64 M, vt, .slice aoK N cK]) (by simp) 2 rfl), (HO.cellsM (t := 50) (xs := [.int .i64 x1, .int .i64 x2]) (by simp) 0 rfl), (HO.cellsM (t := 50) (xs := [.int .i64 x1, .int .i64 x2]) (by simp) 1 rfl)⟩ (fun hHeld => ?_)
    clear hK K
    refine norm_ (a' := ?_) ?_ ?_
    rotate_left
    · show Act.put _ (some 24) _ = _
      simp only [Act.put, List.setIfInBounds_toArray, List.set_cons_zero, List.set_cons_succ, i64_w, i32_w]
      rfl
    refine pure_ (i := 10) (N := some 25) (v := ?_) (a' := ?_) #[true, true, true, true, true, true, true, true, true, true, true, false, false] rfl rfl (by kernel_rfl) (fun _ _ _ h => h) (Or.inl ⟨by rfl, ?_⟩) ?_ ?_
    rotate_left
    · intro w'
      go_simp
      with_reducible rfl
    rotate_left
    · simp only [Act.put, List.setIfInBounds_toArray, List.set_cons_zero, List.set_cons_succ, i64_w, i32_w]
      rfl
    refine pure_ (i := 11) (N := some 26) (v := ?_) (a' := ?_) #[true, true, true, true, true, true, true, true, true, true, true, true, false] rfl rfl (by kernel_rfl) (fun _ _ _ h => h) (Or.inl ⟨by rfl, ?_⟩) ?_ ?_
    rotate_left
    · intro w'
      go_simp
      with_reducible rfl
    rotate_left
    · simp only [Act.put, List.setIfInBounds_toArray, List.set_cons_zero, List.set_cons_succ, i64_w, i32_w]
      rfl
    refine last_ (i := 12) (N := none) #[true, true, true, true, true, true, true, true, true, true, true, true, true] rfl rfl (by kernel_rfl) (by decide) (fun K hK => ?_)
    refine st_storeSlice 2 30 rfl rfl rfl rfl HO rfl rfl (by simp) (by kernel_rfl) ?_
    clear HO
    intro ws HO
    simp only [List.set_cons_zero, List.set_cons_succ] at HO
    refine hK.out _ _ ?_
    clear hK K
    refine done_ (by kernel_rfl) ?_
    have HO2 : Own w0 ws ((gr, RowP 50 2 cr ([] ++ s1.kept.flatMap c2 ++ [.int .i64 x1, .int .i64 x2])) :: (m, CellsP 32 [.int .i64 M, vt, .slice (some ⟨gr, 0, none⟩) (0 + N + 1) cr]) :: (Et ++ (Ek ++ L))) := HO.sub (.cons_cons _ (.cons _ (List.Sublist.refl _)))
    have HO3 := own_rK HO2
    rw [flat_snoc] at HO3
    have e0 : 0 + N + 1 = N + 1 := by omega
    have RW0 : Rw w0 ws L m ⟨M, s1.trial, s1.kept ++ [(x1, x2)]⟩ := ⟨vt, .slice (some ⟨gr, 0, none⟩) (0 + N + 1) cr, Et, [_], HT.out, by rw [e0, ← HN.out]; exact .row (s1.kept ++ [(x1, x2)]) gr cr rfl, HO3⟩
    have HRW0 := Lib.hid RW0
    clear HO HO2 HO3 RW0 e0
    try clear HO
    simp only [Nat.zero_add]
    go_wp2_with (fail)
    go_loopg [] (s1.kept ++ [(x1, x2)]).length (fun q wr => ∃ t2 k2, Hid (Rw w0 wr L m ⟨M, t2, k2⟩) ∧ Hid (Lr.settle M t2 k2 = Lr.settle M s1.trial (s1.kept ++ [(x1, x2)])) ∧ k2.length = q ∧ Hid ((t2 ++ k2).length ≤ 100001 ∧ ∀ y ∈ t2 ++ k2, 1 ≤ y.2 ∧ y.2 ≤ 1099511627776))
    case atStart => exact ⟨s1.trial, s1.kept ++ [(x1, x2)], HRW0, Lib.hid rfl, rfl, hbd⟩
    case round =>
      clear HRW0 HT HKe NK LB H1 H2 H3 H4 LK0 HN vt
      obtain ⟨t2, k2, HRW, hst, hq, hb2⟩ := hrel
      obtain ⟨vt, vk, Et, Ek, hT, hK, HO⟩ := HRW.out
      dsimp only at hT hK HO
      have HQ := Lib.hid hq
      obtain ⟨H, hH⟩ : ∃ H, sum k2 = H := ⟨_, rfl⟩
      have HH := Lib.hid hH
      have FK := fun w' (H : Own w0 w' ((m, CellsP 32 [.int .i64 M, vt, vk]) :: (Et ++ (Ek ++ L)))) => sum_any (hK.rd H (fun x hx => by simp [hx])) (by have := hb2.out.1; simp at this; omega) (fun y hy => hb2.out.2 y (by simp [hy]))
      rw [hH] at FK
      have HFK := Lib.hid FK
      clear FK hH hq
      by_cases hlt : M < H
      · have d : decide (M < H) = true := decide_eq_true hlt
        cases k2 with
        | nil => exfalso; have := HH.out; have := H0.out; simp [sum] at *; omega
        | cons y k3 =>
          obtain ⟨y1, y2⟩ := y
          have hst2 : Lr.settle M (t2 ++ [(y1, y2)]) k3 = Lr.settle M s1.trial (s1.kept ++ [(x1, x2)]) := by
            rw [← hst.out]
            have hs : sum ((y1, y2) :: k3) = H := HH.out
            show _ = Lr.settle M t2 ((y1, y2) :: k3)
            conv => rhs; unfold Lr.settle
            rw [hs, if_pos hlt]
          have HST := Lib.hid hst2
          obtain ⟨gk, ck, hvk, hEk⟩ : ∃ gk ck, vk = .slice (some ⟨gk, 0, none⟩) ((y1, y2) :: k3).length ck ∧ Ek = [(gk, RowP 50 2 ck (((y1, y2) :: k3).flatMap c2))] := by
            obtain ⟨l, hl⟩ : ∃ l, (y1, y2) :: k3 = l := ⟨_, rfl⟩
            rw [hl] at hK ⊢
            cases hK with
            | nil _ => cases hl
            | row _ g c h => exact ⟨g, c, h, rfl⟩
          obtain ⟨aoT, cT, hvT, _, _, _⟩ := hT.rd HO (fun x hx => by simp [hx])
          have HT := Lib.hid hT
          have NT := Lib.hid (show ∀ w' A, Own w0 w' (A ++ ((m, CellsP 32 [.int .i64 M, vt, vk]) :: (Et ++ (Ek ++ L)))) → ∀ j u, (t2.flatMap c2)[j]? = some u → ∃ ad, aoT = some ad ∧ w'.cell? (ad.add j) = some u from fun w' A H => hT.news hvT H (fun x hx => by simp [hx]))
          have hb3 := hb2.out.1
          have HB3 := Lib.hid (show (t2 ++ [(y1, y2)] ++ k3).length ≤ 100001 ∧ ∀ z ∈ t2 ++ [(y1, y2)] ++ k3, 1 ≤ z.2 ∧ z.2 ≤ 1099511627776 from by rw [List.append_assoc]; exact hb2.out)
          obtain ⟨A, hA⟩ : ∃ A, t2.length = A := ⟨_, rfl⟩
          obtain ⟨N, hN⟩ : ∃ N, ((y1, y2) :: k3).length = N := ⟨_, rfl⟩
          have hN0 : 0 < N := by rw [← hN]; simp
          rw [List.length_append, hA, hN] at hb3
          rw [hA] at hvT
          rw [hN] at hvk
          have WO := Lib.hid (fun w' A (H : Own w0 w' (A ++ (Ek ++ L))) => without_any (g := gk) (N := N) (c := ck) (l := (y1, y2) :: k3) 0 H (by rw [hEk]; simp) hN hN0 (by omega))
          have HC := Lib.hid (show ∀ w' A, Own w0 w' (A ++ ((m, CellsP 32 [.int .i64 M, vt, vk]) :: (Et ++ (Ek ++ L)))) → w'.cell? ⟨gk, 0, none⟩ = some (.int .i64 y1) ∧ w'.cell? ⟨gk, 1, none⟩ = some (.int .i64 y2) from fun w' A H => by
            have hm : (gk, RowP 50 2 ck (((y1, y2) :: k3).flatMap c2)) ∈ A ++ ((m, CellsP 32 [.int .i64 M, vt, vk]) :: (Et ++ (Ek ++ L))) := by rw [hEk]; simp
            exact ⟨H.rowCellM hm 0 rfl, H.rowCellM hm 1 rfl⟩)
          subst hvT hvk
          have hbz : (0 : Int) < (N : Int) := by omega
          have LA := Lib.hid (show (t2.flatMap c2).length = A * 2 by rw [flat2_len, hA])
          have H1 := Lib.hid (show 0 + A ≤ maxLen by omega)
          have H2 := Lib.hid (show (0 + A) * 16 ≤ 140737488355328 by omega)
          have H3 := Lib.hid (show 0 + A + 1 ≤ maxLen by omega)
          have H4 := Lib.hid (show (0 + A + 1) * 16 ≤ 140737488355328 by omega)
          have LA0 := Lib.hid (show ([] ++ t2.flatMap c2).length = (0 + A) * 2 by rw [List.nil_append, flat2_len, hA]; omega)
          have HA := Lib.hid (show (t2 ++ [(y1, y2)]).length = A + 1 by rw [List.length_append, hA]; simp)
          have HHN := Lib.hid hN
          clear hst hst2 hT hK hA hN hb2 HRW hEk
          go_upto_region 5 with (fail)
          refine start_ (n := 10) (S := fun w' => w'.cell? ⟨m, 2, none⟩ = some (.slice (some ⟨gk, 0, none⟩) N ck) ∧ w'.cell? ⟨m, 0, none⟩ = some (.int .i64 M)) (ds := []) #[false, false, false, false, false, false, false, false, false, false] (by kernel_rfl) rfl rfl ⟨(by first | exact HO.drew.cell 0 rfl _ rfl | exact HO.drew.cell 1 rfl _ rfl | exact HO.drew.cell 2 rfl _ rfl | exact HO.drew.cell 3 rfl _ rfl | exact HO.drew.cell 4 rfl _ rfl), (by first | exact HO.drew.cell 0 rfl _ rfl | exact HO.drew.cell 1 rfl _ rfl | exact HO.drew.cell 2 rfl _ rfl | exact HO.drew.cell 3 rfl _ rfl | exact HO.drew.cell 4 rfl _ rfl)⟩ (fun hHeld => ?_)
          replace HO := HO.drew
          refine pure_ (i := 0) (N := some 27) (v := ?_) (a' := ?_) #[true, false, false, false, false, false, false, false, false, false] rfl rfl (by kernel_rfl) (fun _ _ _ h => h) (Or.inl ⟨by rfl, ?_⟩) ?_ ?_
          rotate_left
          · intro w'
            go_simp
            with_reducible rfl
          rotate_left
          · simp only [Act.put, List.setIfInBounds_toArray, List.set_cons_zero, List.set_cons_succ, i64_w, i32_w]
            rfl
          refine pure_ (i := 1) (N := some 28) (v := ?_) (a' := ?_) #[true, true, false, false, false, false, false, false, false, false] rfl rfl (by kernel_rfl) (fun _ _ _ h => h) (Or.inl ⟨by rfl, ?_⟩) ?_ ?_
          rotate_left
          · intro w'
            go_simp
            with_reducible rfl
          rotate_left
          · simp only [Act.put, List.setIfInBounds_toArray, List.set_cons_zero, List.set_cons_succ, i64_w, i32_w]
            rfl
          refine pure_ (i := 2) (N := some 29) (v := ?_) (a' := ?_) #[true, true, true, false, false, false, false, false, false, false] rfl rfl (by kernel_rfl) (fun _ _ _ h => h) (Or.inl ⟨by rfl, ?_⟩) ?_ ?_
          rotate_left
          · intro w'
            go_simp
            with_reducible rfl
          rotate_left
          · simp only [Act.put, List.setIfInBounds_toArray, List.set_cons_zero, List.set_cons_succ, i64_w, i32_w]
            rfl
          refine pure_ (i := 5) (N := some 32) (v := ?_) (a' := ?_) #[true, true, true, false, false, true, false, false, false, false] rfl rfl (by kernel_rfl) (fun _ _ _ h => h) (Or.inl ⟨by rfl, ?_⟩) ?_ ?_
          rotate_left
          · intro w'
            go_simp
            with_reducible rfl
          rotate_left
          · simp only [Act.put, List.setIfInBounds_toArray, List.set_cons_zero, List.set_cons_succ, i64_w, i32_w]
            rfl
          refine pure_ (i := 6) (N := some 33) (v := ?_) (a' := ?_) #[true, true, true, false, false, true, true, false, false, false] rfl rfl (by kernel_rfl) (fun _ _ _ h => h) (Or.inl ⟨by rfl, ?_⟩) ?_ ?_
          rotate_left
          · intro w'
            go_simp
            with_reducible rfl
          rotate_left
          · simp only [Act.put, List.setIfInBounds_toArray, List.set_cons_zero, List.set_cons_succ, i64_w, i32_w]
            rfl
          refine pure_ (i := 7) (N := some 34) (v := ?_) (a' := ?_) #[true, true, true, false, false, true, true, true, false, false] rfl rfl (by kernel_rfl) (fun _ _ _ h => h) (Or.inl ⟨by rfl, ?_⟩) ?_ ?_
          rotate_left
          · intro w'
            go_simp
            with_reducible rfl
          rotate_left
          · simp only [Act.put, List.setIfInBounds_toArray, List.set_cons_zero, List.set_cons_succ, i64_w, i32_w]
            rfl
          refine take_ (i := 3) (N := some 30) (v := ?_) (a' := ?_) #[true, true, true, true, false, true, true, true, false, false] rfl rfl (by kernel_rfl) (fun _ _ _ h => h) (Or.inl ⟨by rfl, ?_⟩) hHeld ?_ ?_
          rotate_left
          · rintro w' ⟨s0, s1⟩
            go_simp
            with_reducible rfl
          rotate_left
          · simp only [Act.put, List.setIfInBounds_toArray, List.set_cons_zero, List.set_cons_succ, i64_w, i32_w]
            rfl
          refine take_ (i := 8) (N := some 35) (v := ?_) (a' := ?_) #[true, true, true, true, false, true, true, true, true, false] rfl rfl (by kernel_rfl) (fun _ _ _ h => h) (Or.inl ⟨by rfl, ?_⟩) hHeld ?_ ?_
          rotate_left
          · rintro w' ⟨s0, s1⟩
            go_simp
            with_reducible rfl
          rotate_left
          · simp only [Act.put, List.setIfInBounds_toArray, List.set_cons_zero, List.set_cons_succ, i64_w, i32_w]
            rfl
          refine one_ (i := 4) (N := some 31) #[true, true, true, true, true, true, true, true, true, false] rfl rfl (by kernel_rfl) (by decide) (fun K hK => ?_)
          refine goes_ Try.func31 (by kernel_rfl) rfl #[.slice (some ⟨gk, 0, none⟩) N ck] (by rfl) rfl rfl (by simp only [List.map_toArray, List.map_cons, List.map_nil]; rfl) ?_
          with_reducible refine (HFK.out _ HO).mono ?_
          rintro e w1 ⟨rfl, rfl⟩
          refine ⟨_, rfl, ?_⟩
          refine hK.out _ _ ⟨(by first | exact HO.cell 0 rfl _ rfl | exact HO.cell 1 rfl _ rfl | exact HO.cell 2 rfl _ rfl | exact HO.cell 3 rfl _ rfl | exact HO.cell 4 rfl _ rfl), (by first | exact HO.cell 0 rfl _ rfl | exact HO.cell 1 rfl _ rfl | exact HO.cell 2 rfl _ rfl | exact HO.cell 3 rfl _ rfl | exact HO.cell 4 rfl _ rfl)⟩ (fun hHeld => ?_)
          clear hK K
          refine norm_ (a' := ?_) ?_ ?_
          rotate_left
          · show Act.put _ (some 31) _ = _
            simp only [Act.put, List.setIfInBounds_toArray, List.set_cons_zero, List.set_cons_succ, i64_w, i32_w]
            rfl
          refine pure_ (i := 9) (N := some 36) (v := ?_) (a' := ?_) #[true, true, true, true, true, true, true, true, true, true] rfl rfl (by kernel_rfl) (fun _ _ _ h => h) (Or.inl ⟨by rfl, ?_⟩) ?_ ?_
          rotate_left
          · intro w'
            go_simp
            with_reducible rfl
          rotate_left
          · simp only [Act.put, List.setIfInBounds_toArray, List.set_cons_zero, List.set_cons_succ, i64_w, i32_w]
            rfl
          refine done_ (by kernel_rfl) ?_
          go_upto_region 6 with (fail)
          refine start_ (n := 18) (S := fun w' => w'.cell? ⟨m, 1, none⟩ = some (.slice aoT A cT) ∧ w'.cell? ⟨m, 2, none⟩ = some (.slice (some ⟨gk, 0, none⟩) N ck) ∧ w'.cell? ⟨gk, 0, none⟩ = some (.int .i64 y1) ∧ w'.cell? ⟨gk, 1, none⟩ = some (.int .i64 y2)) (ds := [17]) #[false, false, false, false, false, false, false, false, false, false, false, false, false, false, false, false, false, false] (by kernel_rfl) rfl rfl ⟨(HO.drew.cellsM (t := 32) (xs := [.int .i64 M, .slice aoT A cT, .slice (some ⟨gk, 0, none⟩) N ck]) (by simp) 1 rfl), (HO.drew.cellsM (t := 32) (xs := [.int .i64 M, .slice aoT A cT, .slice (some ⟨gk, 0, none⟩) N ck]) (by simp) 2 rfl), (by first | exact (HC.out _ [] HO.drew).1 | exact (HC.out _ [_] HO.drew).1 | exact (HC.out _ [_, _] HO.drew).1), (by first | exact (HC.out _ [] HO.drew).2 | exact (HC.out _ [_] HO.drew).2 | exact (HC.out _ [_, _] HO.drew).2)⟩ (fun hHeld => ?_)
          replace HO := HO.drew
          refine pure_ (i := 0) (N := some 37) (v := ?_) (a' := ?_) #[true, false, false, false, false, false, false, false, false, false, false, false, false, false, false, false, false, false] rfl rfl (by kernel_rfl) (fun _ _ _ h => h) (Or.inl ⟨by rfl, ?_⟩) ?_ ?_
          rotate_left
          · intro w'
            go_simp
            with_reducible rfl
          rotate_left
          · simp only [Act.put, List.setIfInBounds_toArray, List.set_cons_zero, List.set_cons_succ, i64_w, i32_w]
            rfl
          refine pure_ (i := 2) (N := some 39) (v := ?_) (a' := ?_) #[true, false, true, false, false, false, false, false, false, false, false, false, false, false, false, false, false, false] rfl rfl (by kernel_rfl) (fun _ _ _ h => h) (Or.inl ⟨by rfl, ?_⟩) ?_ ?_
          rotate_left
          · intro w'
            go_simp
            with_reducible rfl
          rotate_left
          · simp only [Act.put, List.setIfInBounds_toArray, List.set_cons_zero, List.set_cons_succ, i64_w, i32_w]
            rfl
          refine pure_ (i := 3) (N := some 40) (v := ?_) (a' := ?_) #[true, false, true, true, false, false, false, false, false, false, false, false, false, false, false, false, false, false] rfl rfl (by kernel_rfl) (fun _ _ _ h => h) (Or.inl ⟨by rfl, ?_⟩) ?_ ?_
          rotate_left
          · intro w'
            go_simp
            with_reducible rfl
          rotate_left
          · simp only [Act.put, List.setIfInBounds_toArray, List.set_cons_zero, List.set_cons_succ, i64_w, i32_w]
            rfl
          refine pure_ (i := 4) (N := some 41) (v := ?_) (a' := ?_) #[true, false, true, true, true, false, false, false, false, false, false, false, false, false, false, false, false, false] rfl rfl (by kernel_rfl) (fun _ _ _ h => h) (Or.inl ⟨by rfl, ?_⟩) ?_ ?_
          rotate_left
          · intro w'
            go_simp
            with_reducible rfl
          rotate_left
          · simp only [Act.put, List.setIfInBounds_toArray, List.set_cons_zero, List.set_cons_succ, i64_w, i32_w]
            rfl
          refine pure_ (i := 7) (N := some 44) (v := ?_) (a' := ?_) #[true, false, true, true, true, false, false, true, false, false, false, false, false, false, false, false, false, false] rfl rfl (by kernel_rfl) (fun _ _ _ h => h) (Or.inl ⟨by rfl, ?_⟩) ?_ ?_
          rotate_left
          · intro w'
            go_simp
            with_reducible rfl
          rotate_left
          · simp only [Act.put, List.setIfInBounds_toArray, List.set_cons_zero, List.set_cons_succ, i64_w, i32_w]
            rfl
          refine pure_ (i := 8) (N := some 45) (v := ?_) (a' := ?_) #[true, false, true, true, true, false, false, true, true, false, false, false, false, false, false, false, false, false] rfl rfl (by kernel_rfl) (fun _ _ _ h => h) (Or.inl ⟨by rfl, ?_⟩) ?_ ?_
          rotate_left
          · intro w'
            go_simp
            with_reducible rfl
          rotate_left
          · simp only [Act.put, List.setIfInBounds_toArray, List.set_cons_zero, List.set_cons_succ, i64_w, i32_w]
            rfl
          refine pure_ (i := 9) (N := some 46) (v := ?_) (a' := ?_) #[true, false, true, true, true, false, false, true, true, true, false, false, false, false, false, false, false, false] rfl rfl (by kernel_rfl) (fun _ _ _ h => h) (Or.inl ⟨by rfl, ?_⟩) ?_ ?_
          rotate_left
          · intro w'
            go_simp
            with_reducible rfl
          rotate_left
          · simp only [Act.put, List.setIfInBounds_toArray, List.set_cons_zero, List.set_cons_succ, i64_w, i32_w]
            rfl
          refine take_ (i := 5) (N := some 42) (v := ?_) (a' := ?_) #[true, false, true, true, true, true, false, true, true, true, false, false, false, false, false, false, false, false] rfl rfl (by kernel_rfl) (fun _ _ _ h => h) (Or.inl ⟨by rfl, ?_⟩) hHeld ?_ ?_
          rotate_left
          · rintro w' ⟨s0, s1, s2, s3⟩
            go_simp
            with_reducible rfl
          rotate_left
          · simp only [Act.put, List.setIfInBounds_toArray, List.set_cons_zero, List.set_cons_succ, i64_w, i32_w]
            rfl
          refine take_ (i := 10) (N := some 47) (v := ?_) (a' := ?_) #[true, false, true, true, true, true, false, true, true, true, true, false, false, false, false, false, false, false] rfl rfl (by kernel_rfl) (fun _ _ _ h => h) (Or.inl ⟨by rfl, ?_⟩) hHeld ?_ ?_
          rotate_left
          · rintro w' ⟨s0, s1, s2, s3⟩
            go_simp
            with_reducible rfl
          rotate_left
          · simp only [Act.put, List.setIfInBounds_toArray, List.set_cons_zero, List.set_cons_succ, i64_w, i32_w]
            rfl
          refine pure_ (i := 11) (N := some 48) (v := ?_) (a' := ?_) #[true, false, true, true, true, true, false, true, true, true, true, true, false, false, false, false, false, false] rfl rfl (by kernel_rfl) (fun _ _ _ h => h) (Or.inl ⟨by rfl, ?_⟩) ?_ ?_
          rotate_left
          · intro w'
            go_simp
            with_reducible rfl
          rotate_left
          · simp only [Act.put, List.setIfInBounds_toArray, List.set_cons_zero, List.set_cons_succ, i64_w, i32_w]
            rfl
          refine take_ (i := 12) (N := some 49) (v := ?_) (a' := ?_) #[true, false, true, true, true, true, false, true, true, true, true, true, true, false, false, false, false, false] rfl rfl (by kernel_rfl) (fun _ _ _ h => h) (Or.inl ⟨by rfl, ?_⟩) hHeld ?_ ?_
          rotate_left
          · rintro w' ⟨s0, s1, s2, s3⟩
            go_simp
            with_reducible rfl
          rotate_left
          · simp only [Act.put, List.setIfInBounds_toArray, List.set_cons_zero, List.set_cons_succ, i64_w, i32_w]
            rfl
          refine join_ (σ := Nat × Nat × Nat × Nat) 4 #[true, true, true, true, true, true, true, true, true, true, true, true, true, true, false, false, false, false] (fun s => [(38, .slice (some ⟨s.1, 0, none⟩) 0 0), (43, .slice (some ⟨s.2.1, 0, none⟩) (0 + A) s.2.2.1), (50, .slice (some ⟨s.2.2.2, 0, none⟩) 1 1)]) (fun s w' => Own w0 w' ((s.2.2.2, RowP 50 2 1 [.int .i64 y1, .int .i64 y2]) :: (s.2.1, RowP 50 2 s.2.2.1 ([] ++ t2.flatMap c2)) :: (m, CellsP 32 [.int .i64 M, .slice aoT A cT, .slice (some ⟨gk, 0, none⟩) N ck]) :: (Et ++ (Ek ++ L)))) ?_ ?_
          rotate_left
          · intro hCont
            refine two_ (i := 1) (j := 13) (Ni := some 38) (Nj := some 50) #[true, true, true, true, true, true, false, true, true, true, true, true, true, false, false, false, false, false] #[true, false, true, true, true, true, false, true, true, true, true, true, true, true, false, false, false, false] rfl rfl rfl rfl (by kernel_rfl) (by decide) (by decide) (fun K hK => ?_) (fun K hK => ?_)
            · skip
              refine st_bslice 30 2 rfl rfl (by go_simp; rfl) rfl (by decide) HO ?_
              clear HO
              intro gn wn HO
              refine hK.out _ _ ⟨(HO.cellsM (t := 32) (xs := [.int .i64 M, .slice aoT A cT, .slice (some ⟨gk, 0, none⟩) N ck]) (by simp) 1 rfl), (HO.cellsM (t := 32) (xs := [.int .i64 M, .slice aoT A cT, .slice (some ⟨gk, 0, none⟩) N ck]) (by simp) 2 rfl), (by first | exact (HC.out _ [] HO).1 | exact (HC.out _ [_] HO).1 | exact (HC.out _ [_, _] HO).1), (by first | exact (HC.out _ [] HO).2 | exact (HC.out _ [_] HO).2 | exact (HC.out _ [_, _] HO).2)⟩ (fun hHeld => ?_)
              clear hK K
              refine norm_ (a' := ?_) ?_ ?_
              rotate_left
              · show Act.put _ (some 38) _ = _
                simp only [Act.put, List.setIfInBounds_toArray, List.set_cons_zero, List.set_cons_succ, i64_w, i32_w]
                rfl
              refine two_ (i := 6) (j := 13) (Ni := some 43) (Nj := some 50) #[true, true, true, true, true, true, true, true, true, true, true, true, true, false, false, false, false, false] #[true, true, true, true, true, true, false, true, true, true, true, true, true, true, false, false, false, false] rfl rfl rfl rfl (by kernel_rfl) (by decide) (by decide) (fun K hK => ?_) (fun K hK => ?_)
              · skip
                refine st_append_any 0 el30 rfl rfl (n := 0) rfl HO rfl rfl rfl (news := t2.flatMap c2) LA.out (NT.out _ [_] HO) (c2_one _) H1.out H2.out ?_
                clear HO
                intro gq cq wq hcq HO
                simp only [List.eraseIdx_cons_zero, List.eraseIdx_cons_succ] at HO
                refine hK.out _ _ ⟨(HO.cellsM (t := 32) (xs := [.int .i64 M, .slice aoT A cT, .slice (some ⟨gk, 0, none⟩) N ck]) (by simp) 1 rfl), (HO.cellsM (t := 32) (xs := [.int .i64 M, .slice aoT A cT, .slice (some ⟨gk, 0, none⟩) N ck]) (by simp) 2 rfl), (by first | exact (HC.out _ [] HO).1 | exact (HC.out _ [_] HO).1 | exact (HC.out _ [_, _] HO).1), (by first | exact (HC.out _ [] HO).2 | exact (HC.out _ [_] HO).2 | exact (HC.out _ [_, _] HO).2)⟩ (fun hHeld => ?_)
                clear hK K
                refine norm_ (a' := ?_) ?_ ?_
                rotate_left
                · show Act.put _ (some 43) _ = _
                  simp only [Act.put, List.setIfInBounds_toArray, List.set_cons_zero, List.set_cons_succ, i64_w, i32_w]
                  rfl
                refine one_ (i := 13) (N := some 50) #[true, true, true, true, true, true, true, true, true, true, true, true, true, true, false, false, false, false] rfl rfl (by kernel_rfl) (by decide) (fun K hK => ?_)
                refine st_bslice 30 2 rfl rfl (by go_simp; rfl) rfl (by decide) HO ?_
                clear HO
                intro gb wb HO
                refine hK.out _ _ ⟨(HO.cellsM (t := 32) (xs := [.int .i64 M, .slice aoT A cT, .slice (some ⟨gk, 0, none⟩) N ck]) (by simp) 1 rfl), (HO.cellsM (t := 32) (xs := [.int .i64 M, .slice aoT A cT, .slice (some ⟨gk, 0, none⟩) N ck]) (by simp) 2 rfl), (by first | exact (HC.out _ [] HO).1 | exact (HC.out _ [_] HO).1 | exact (HC.out _ [_, _] HO).1), (by first | exact (HC.out _ [] HO).2 | exact (HC.out _ [_] HO).2 | exact (HC.out _ [_, _] HO).2)⟩ (fun hHeld => ?_)
                clear hK K
                refine norm_ (a' := ?_) ?_ ?_
                rotate_left
                · show Act.put _ (some 50) _ = _
                  simp only [Act.put, List.setIfInBounds_toArray, List.set_cons_zero, List.set_cons_succ, i64_w, i32_w]
                  rfl
                exact norm_ (by simp only [putAll, Act.put, List.setIfInBounds_toArray, List.set_cons_zero, List.set_cons_succ]) (hCont (gn, gq, cq, gb) _ HO)
              · skip
                refine st_bslice 30 2 rfl rfl (by go_simp; rfl) rfl (by decide) HO ?_
                clear HO
                intro gb wb HO
                refine hK.out _ _ ⟨(HO.cellsM (t := 32) (xs := [.int .i64 M, .slice aoT A cT, .slice (some ⟨gk, 0, none⟩) N ck]) (by simp) 1 rfl), (HO.cellsM (t := 32) (xs := [.int .i64 M, .slice aoT A cT, .slice (some ⟨gk, 0, none⟩) N ck]) (by simp) 2 rfl), (by first | exact (HC.out _ [] HO).1 | exact (HC.out _ [_] HO).1 | exact (HC.out _ [_, _] HO).1), (by first | exact (HC.out _ [] HO).2 | exact (HC.out _ [_] HO).2 | exact (HC.out _ [_, _] HO).2)⟩ (fun hHeld => ?_)
                clear hK K
                refine norm_ (a' := ?_) ?_ ?_
                rotate_left
                · show Act.put _ (some 50) _ = _
                  simp only [Act.put, List.setIfInBounds_toArray, List.set_cons_zero, List.set_cons_succ, i64_w, i32_w]
                  rfl
                refine one_ (i := 6) (N := some 43) #[true, true, true, true, true, true, true, true, true, true, true, true, true, true, false, false, false, false] rfl rfl (by kernel_rfl) (by decide) (fun K hK => ?_)
                refine st_append_any 1 el30 rfl rfl (n := 0) rfl HO rfl rfl rfl (news := t2.flatMap c2) LA.out (NT.out _ [_, _] HO) (c2_one _) H1.out H2.out ?_
                clear HO
                intro gq cq wq hcq HO
                simp only [List.eraseIdx_cons_zero, List.eraseIdx_cons_succ] at HO
                refine hK.out _ _ ⟨(HO.cellsM (t := 32) (xs := [.int .i64 M, .slice aoT A cT, .slice (some ⟨gk, 0, none⟩) N ck]) (by simp) 1 rfl), (HO.cellsM (t := 32) (xs := [.int .i64 M, .slice aoT A cT, .slice (some ⟨gk, 0, none⟩) N ck]) (by simp) 2 rfl), (by first | exact (HC.out _ [] HO).1 | exact (HC.out _ [_] HO).1 | exact (HC.out _ [_, _] HO).1), (by first | exact (HC.out _ [] HO).2 | exact (HC.out _ [_] HO).2 | exact (HC.out _ [_, _] HO).2)⟩ (fun hHeld => ?_)
                clear hK K
                refine norm_ (a' := ?_) ?_ ?_
                rotate_left
                · show Act.put _ (some 43) _ = _
                  simp only [Act.put, List.setIfInBounds_toArray, List.set_cons_zero, List.set_cons_succ, i64_w, i32_w]
                  rfl
                exact norm_ (by simp only [putAll, Act.put, List.setIfInBounds_toArray, List.set_cons_zero, List.set_cons_succ]) (hCont (gn, gq, cq, gb) _ (HO.perm (List.Perm.swap _ _ _)))
            · skip
              refine st_bslice 30 2 rfl rfl (by go_simp; rfl) rfl (by decide) HO ?_
              clear HO
              intro gb wb HO
              refine hK.out _ _ ⟨(HO.cellsM (t := 32) (xs := [.int .i64 M, .slice aoT A cT, .slice (some ⟨gk, 0, none⟩) N ck]) (by simp) 1 rfl), (HO.cellsM (t := 32) (xs := [.int .i64 M, .slice aoT A cT, .slice (some ⟨gk, 0, none⟩) N ck]) (by simp) 2 rfl), (by first | exact (HC.out _ [] HO).1 | exact (HC.out _ [_] HO).1 | exact (HC.out _ [_, _] HO).1), (by first | exact (HC.out _ [] HO).2 | exact (HC.out _ [_] HO).2 | exact (HC.out _ [_, _] HO).2)⟩ (fun hHeld => ?_)
              clear hK K
              refine norm_ (a' := ?_) ?_ ?_
              rotate_left
              · show Act.put _ (some 50) _ = _
                simp only [Act.put, List.setIfInBounds_toArray, List.set_cons_zero, List.set_cons_succ, i64_w, i32_w]
                rfl
              refine one_ (i := 1) (N := some 38) #[true, true, true, true, true, true, false, true, true, true, true, true, true, true, false, false, false, false] rfl rfl (by kernel_rfl) (by decide) (fun K hK => ?_)
              refine st_bslice 30 2 rfl rfl (by go_simp; rfl) rfl (by decide) HO ?_
              clear HO
              intro gn wn HO
              refine hK.out _ _ ⟨(HO.cellsM (t := 32) (xs := [.int .i64 M, .slice aoT A cT, .slice (some ⟨gk, 0, none⟩) N ck]) (by simp) 1 rfl), (HO.cellsM (t := 32) (xs := [.int .i64 M, .slice aoT A cT, .slice (some ⟨gk, 0, none⟩) N ck]) (by simp) 2 rfl), (by first | exact (HC.out _ [] HO).1 | exact (HC.out _ [_] HO).1 | exact (HC.out _ [_, _] HO).1), (by first | exact (HC.out _ [] HO).2 | exact (HC.out _ [_] HO).2 | exact (HC.out _ [_, _] HO).2)⟩ (fun hHeld => ?_)
              clear hK K
              refine norm_ (a' := ?_) ?_ ?_
              rotate_left
              · show Act.put _ (some 38) _ = _
                simp only [Act.put, List.setIfInBounds_toArray, List.set_cons_zero, List.set_cons_succ, i64_w, i32_w]
                rfl
              refine one_ (i := 6) (N := some 43) #[true, true, true, true, true, true, true, true, true, true, true, true, true, true, false, false, false, false] rfl rfl (by kernel_rfl) (by decide) (fun K hK => ?_)
              refine st_append_any 0 el30 rfl rfl (n := 0) rfl HO rfl rfl rfl (news := t2.flatMap c2) LA.out (NT.out _ [_, _] HO) (c2_one _) H1.out H2.out ?_
              clear HO
              intro gq cq wq hcq HO
              simp only [List.eraseIdx_cons_zero, List.eraseIdx_cons_succ] at HO
              refine hK.out _ _ ⟨(HO.cellsM (t := 32) (xs := [.int .i64 M, .slice aoT A cT, .slice (some ⟨gk, 0, none⟩) N ck]) (by simp) 1 rfl), (HO.cellsM (t := 32) (xs := [.int .i64 M, .slice aoT A cT, .slice (some ⟨gk, 0, none⟩) N ck]) (by simp) 2 rfl), (by first | exact (HC.out _ [] HO).1 | exact (HC.out _ [_] HO).1 | exact (HC.out _ [_, _] HO).1), (by first | exact (HC.out _ [] HO).2 | exact (HC.out _ [_] HO).2 | exact (HC.out _ [_, _] HO).2)⟩ (fun hHeld => ?_)
              clear hK K
              refine norm_ (a' := ?_) ?_ ?_
              rotate_left
              · show Act.put _ (some 43) _ = _
                simp only [Act.put, List.setIfInBounds_toArray, List.set_cons_zero, List.set_cons_succ, i64_w, i32_w]
                rfl
              exact norm_ (by simp only [putAll, Act.put, List.setIfInBounds_toArray, List.set_cons_zero, List.set_cons_succ]) (hCont (gn, gq, cq, gb) _ (HO.perm (List.Perm.swap _ _ _)))
          rintro ⟨gn, gq, cq, gb⟩ w1 HO
          dsimp only at HO
          have hHeld : w1.cell? ⟨m, 1, none⟩ = some (.slice aoT A cT) ∧ w1.cell? ⟨m, 2, none⟩ = some (.slice (some ⟨gk, 0, none⟩) N ck) ∧ w1.cell? ⟨gk, 0, none⟩ = some (.int .i64 y1) ∧ w1.cell? ⟨gk, 1, none⟩ = some (.int .i64 y2) := ⟨(HO.cellsM (t := 32) (xs := [.int .i64 M, .slice aoT A cT, .slice (some ⟨gk, 0, none⟩) N ck]) (by simp) 1 rfl), (HO.cellsM (t := 32) (xs := [.int .i64 M, .slice aoT A cT, .slice (some ⟨gk, 0, none⟩) N ck]) (by simp) 2 rfl), (by first | exact (HC.out _ [] HO).1 | exact (HC.out _ [_] HO).1 | exact (HC.out _ [_, _] HO).1), (by first | exact (HC.out _ [] HO).2 | exact (HC.out _ [_] HO).2 | exact (HC.out _ [_, _] HO).2)⟩
          refine norm_ (a' := ?_) ?_ ?_
          rotate_left
          · simp only [putAll, Act.put, List.setIfInBounds_toArray, List.set_cons_zero, List.set_cons_succ]
            rfl
          refine one_ (i := 14) (N := some 51) #[true, true, true, true, true, true, true, true, true, true, true, true, true, true, true, false, false, false] rfl rfl (by kernel_rfl) (by decide) (fun K hK => ?_)
          refine st_append_row1 0 el30 rfl rfl rfl HO rfl LA0.out rfl rfl rfl (by decide) H3.out H4.out ?_
          clear HO
          intro gr cr wr hcr HO
          simp only [List.eraseIdx_cons_zero] at HO
          refine hK.out _ _ ⟨(HO.cellsM (t := 32) (xs := [.int .i64 M, .slice aoT A cT, .slice (some ⟨gk, 0, none⟩) N ck]) (by simp) 1 rfl), (HO.cellsM (t := 32) (xs := [.int .i64 M, .slice aoT A cT, .slice (some ⟨gk, 0, none⟩) N ck]) (by simp) 2 rfl), (by first | exact (HC.out _ [] HO).1 | exact (HC.out _ [_] HO).1 | exact (HC.out _ [_, _] HO).1), (by first | exact (HC.out _ [] HO).2 | exact (HC.out _ [_] HO).2 | exact (HC.out _ [_, _] HO).2)⟩ (fun hHeld => ?_)
          clear hK K
          refine norm_ (a' := ?_) ?_ ?_
          rotate_left
          · show Act.put _ (some 51) _ = _
            simp only [Act.put, List.setIfInBounds_toArray, List.set_cons_zero, List.set_cons_succ, i64_w, i32_w]
            rfl
          refine pure_ (i := 15) (N := some 52) (v := ?_) (a' := ?_) #[true, true, true, true, true, true, true, true, true, true, true, true, true, true, true, true, false, false] rfl rfl (by kernel_rfl) (fun _ _ _ h => h) (Or.inl ⟨by rfl, ?_⟩) ?_ ?_
          rotate_left
          · intro w'
            go_simp
            with_reducible rfl
          rotate_left
          · simp only [Act.put, List.setIfInBounds_toArray, List.set_cons_zero, List.set_cons_succ, i64_w, i32_w]
            rfl
          refine pure_ (i := 16) (N := some 53) (v := ?_) (a' := ?_) #[true, true, true, true, true, true, true, true, true, true, true, true, true, true, true, true, true, false] rfl rfl (by kernel_rfl) (fun _ _ _ h => h) (Or.inl ⟨by rfl, ?_⟩) ?_ ?_
          rotate_left
          · intro w'
            go_simp
            with_reducible rfl
          rotate_left
          · simp only [Act.put, List.setIfInBounds_toArray, List.set_cons_zero, List.set_cons_succ, i64_w, i32_w]
            rfl
          refine last_ (i := 17) (N := none) #[true, true, true, true, true, true, true, true, true, true, true, true, true, true, true, true, true, true] rfl rfl (by kernel_rfl) (by decide) (fun K hK => ?_)
          refine st_storeSlice 1 30 rfl rfl rfl rfl HO rfl rfl (by simp) (by kernel_rfl) ?_
          clear HO
          intro ws HO
          simp only [List.set_cons_zero, List.set_cons_succ] at HO
          refine hK.out _ _ ?_
          clear hK K
          refine done_ (by kernel_rfl) ?_
          have HO2 := own_rT HO
          clear HO
          have HO := HO2
          clear HO2
          go_wp2_with (refine li_load 0 30 rfl rfl rfl HO rfl rfl (by kernel_rfl) ?_)
          go_at_call 38; refine (WO.out _ [_, _] HO).mono ?_; rintro e w3 ⟨gw, cw, rfl, HO1⟩
          clear HO
          have HO := HO1
          clear HO1
          go_wp2_with (refine li_storeSlice 1 30 rfl rfl rfl rfl HO rfl rfl (by simp) (by kernel_rfl) ?_; clear HO; intro ws2 HO; simp only [List.set_cons_zero, List.set_cons_succ] at HO)
          have HO3 := own_rK HO
          rw [flat_snoc] at HO3
          have e0 : 0 + A + 1 = A + 1 := by omega
          have RW1 : Rw w0 ws2 L m ⟨M, t2 ++ [(y1, y2)], k3⟩ := ⟨.slice (some ⟨gr, 0, none⟩) (0 + A + 1) cr, .slice (some ⟨gw, 0, none⟩) k3.length cw, [_], [_], by rw [e0, ← HA.out]; exact .row (t2 ++ [(y1, y2)]) gr cr rfl, .row k3 gw cw rfl, HO3⟩
          have HRW1 := Lib.hid RW1
          clear HO HO3 RW1 e0
          try clear HO
          go_roundg k3.length
          case measure => have := HQ.out; simp only [List.length_cons] at this; omega
          case rel => exact ⟨t2 ++ [(y1, y2)], k3, HRW1, HST, rfl, HB3⟩
      · have d : decide (M < H) = false := decide_eq_false hlt
        have hst2 : Lr.settle M s1.trial (s1.kept ++ [(x1, x2)]) = (t2, k2) := by
          rw [← hst.out]
          cases k2 with
          | nil => rfl
          | cons y k3 =>
            have hs : sum (y :: k3) = H := HH.out
            unfold Lr.settle
            rw [hs, if_neg hlt]
        have HST := Lib.hid hst2
        have HTT := Lib.hid hT
        have HKK := Lib.hid hK
        clear hst hst2 hT hK
        go_upto_region 5 with (fail)
        refine start_ (n := 10) (S := fun w' => w'.cell? ⟨m, 2, none⟩ = some (vk) ∧ w'.cell? ⟨m, 0, none⟩ = some (.int .i64 M)) (ds := []) #[false, false, false, false, false, false, false, false, false, false] (by kernel_rfl) rfl rfl ⟨(by first | exact HO.drew.cell 0 rfl _ rfl | exact HO.drew.cell 1 rfl _ rfl | exact HO.drew.cell 2 rfl _ rfl | exact HO.drew.cell 3 rfl _ rfl | exact HO.drew.cell 4 rfl _ rfl), (by first | exact HO.drew.cell 0 rfl _ rfl | exact HO.drew.cell 1 rfl _ rfl | exact HO.drew.cell 2 rfl _ rfl | exact HO.drew.cell 3 rfl _ rfl | exact HO.drew.cell 4 rfl _ rfl)⟩ (fun hHeld => ?_)
        replace HO := HO.drew
        refine pure_ (i := 0) (N := some 27) (v := ?_) (a' := ?_) #[true, false, false, false, false, false, false, false, false, false] rfl rfl (by kernel_rfl) (fun _ _ _ h => h) (Or.inl ⟨by rfl, ?_⟩) ?_ ?_
        rotate_left
        · intro w'
          go_simp
          with_reducible rfl
        rotate_left
        · simp only [Act.put, List.setIfInBounds_toArray, List.set_cons_zero, List.set_cons_succ, i64_w, i32_w]
          rfl
        refine pure_ (i := 1) (N := some 28) (v := ?_) (a' := ?_) #[true, true, false, false, false, false, false, false, false, false] rfl rfl (by kernel_rfl) (fun _ _ _ h => h) (Or.inl ⟨by rfl, ?_⟩) ?_ ?_
        rotate_left
        · intro w'
          go_simp
          with_reducible rfl
        rotate_left
        · simp only [Act.put, List.setIfInBounds_toArray, List.set_cons_zero, List.set_cons_succ, i64_w, i32_w]
          rfl
        refine pure_ (i := 2) (N := some 29) (v := ?_) (a' := ?_) #[true, true, true, false, false, false, false, false, false, false] rfl rfl (by kernel_rfl) (fun _ _ _ h => h) (Or.inl ⟨by rfl, ?_⟩) ?_ ?_
        rotate_left
        · intro w'
          go_simp
          with_reducible rfl
        rotate_left
        · simp only [Act.put, List.setIfInBounds_toArray, List.set_cons_zero, List.set_cons_succ, i64_w, i32_w]
          rfl
        refine pure_ (i := 5) (N := some 32) (v := ?_) (a' := ?_) #[true, true, true, false, false, true, false, false, false, false] rfl rfl (by kernel_rfl) (fun _ _ _ h => h) (Or.inl ⟨by rfl, ?_⟩) ?_ ?_
        rotate_left
        · intro w'
          go_simp
          with_reducible rfl
        rotate_left
        · simp only [Act.put, List.setIfInBounds_toArray, List.set_cons_zero, List.set_cons_succ, i64_w, i32_w]
          rfl
        refine pure_ (i := 6) (N := some 33) (v := ?_) (a' := ?_) #[true, true, true, false, false, true, true, false, false, false] rfl rfl (by kernel_rfl) (fun _ _ _ h => h) (Or.inl ⟨by rfl, ?_⟩) ?_ ?_
        rotate_left
        · intro w'
          go_simp
          with_reducible rfl
        rotate_left
        · simp only [Act.put, List.setIfInBounds_toArray, List.set_cons_zero, List.set_cons_succ, i64_w, i32_w]
          rfl
        refine pure_ (i := 7) (N := some 34) (v := ?_) (a' := ?_) #[true, true, true, false, false, true, true, true, false, false] rfl rfl (by kernel_rfl) (fun _ _ _ h => h) (Or.inl ⟨by rfl, ?_⟩) ?_ ?_
        rotate_left
        · intro w'
          go_simp
          with_reducible rfl
        rotate_left
        · simp only [Act.put, List.setIfInBounds_toArray, List.set_cons_zero, List.set_cons_succ, i64_w, i32_w]
          rfl
        refine take_ (i := 3) (N := some 30) (v := ?_) (a' := ?_) #[true, true, true, true, false, true, true, true, false, false] rfl rfl (by kernel_rfl) (fun _ _ _ h => h) (Or.inl ⟨by rfl, ?_⟩) hHeld ?_ ?_
        rotate_left
        · rintro w' ⟨s0, s1⟩
          go_simp
          with_reducible rfl
        rotate_left
        · simp only [Act.put, List.setIfInBounds_toArray, List.set_cons_zero, List.set_cons_succ, i64_w, i32_w]
          rfl
        refine take_ (i := 8) (N := some 35) (v := ?_) (a' := ?_) #[true, true, true, true, false, true, true, true, true, false] rfl rfl (by kernel_rfl) (fun _ _ _ h => h) (Or.inl ⟨by rfl, ?_⟩) hHeld ?_ ?_
        rotate_left
        · rintro w' ⟨s0, s1⟩
          go_simp
          with_reducible rfl
        rotate_left
        · simp only [Act.put, List.setIfInBounds_toArray, List.set_cons_zero, List.set_cons_succ, i64_w, i32_w]
          rfl
        refine one_ (i := 4) (N := some 31) #[true, true, true, true, true, true, true, true, true, false] rfl rfl (by kernel_rfl) (by decide) (fun K hK => ?_)
        refine goes_ Try.func31 (by kernel_rfl) rfl #[vk] (by rfl) rfl rfl (by simp only [List.map_toArray, List.map_cons, List.map_nil]; rfl) ?_
        with_reducible refine (HFK.out _ HO).mono ?_
        rintro e w1 ⟨rfl, rfl⟩
        refine ⟨_, rfl, ?_⟩
        refine hK.out _ _ ⟨(by first | exact HO.cell 0 rfl _ rfl | exact HO.cell 1 rfl _ rfl | exact HO.cell 2 rfl _ rfl | exact HO.cell 3 rfl _ rfl | exact HO.cell 4 rfl _ rfl), (by first | exact HO.cell 0 rfl _ rfl | exact HO.cell 1 rfl _ rfl | exact HO.cell 2 rfl _ rfl | exact HO.cell 3 rfl _ rfl | exact HO.cell 4 rfl _ rfl)⟩ (fun hHeld => ?_)
        clear hK K
        refine norm_ (a' := ?_) ?_ ?_
        rotate_left
        · show Act.put _ (some 31) _ = _
          simp only [Act.put, List.setIfInBounds_toArray, List.set_cons_zero, List.set_cons_succ, i64_w, i32_w]
          rfl
        refine pure_ (i := 9) (N := some 36) (v := ?_) (a' := ?_) #[true, true, true, true, true, true, true, true, true, true] rfl rfl (by kernel_rfl) (fun _ _ _ h => h) (Or.inl ⟨by rfl, ?_⟩) ?_ ?_
        rotate_left
        · intro w'
          go_simp
          with_reducible rfl
        rotate_left
        · simp only [Act.put, List.setIfInBounds_toArray, List.set_cons_zero, List.set_cons_succ, i64_w, i32_w]
          rfl
        refine done_ (by kernel_rfl) ?_
        go_wp2_with (fail)
        go_ret
        refine ⟨rfl, ?_⟩
        rw [HST.out]
        exact ⟨vt, vk, Et, Ek, HTT.out, HKK.out, by rw [HM1.out]; exact HO⟩
end Go.Proofs.Ytkkgajlddlnghaa

/- Bytes written into a disk. -/
import Derived.Test.YtbgjfdeolckljaaDd
namespace Go.Proofs.Ytbgjfdeolckljaa
set_option linter.unusedVariables false
set_option linter.unusedSimpArgs false
set_option linter.unnecessarySimpa false
open Go.RowKit Go.Proofs.YtbgjfdeolckljaaW.PrintLast
theorem Own.mid {w0 w : World} {A B L : List Ent} (h : Own w0 w (A ++ (B ++ L))) : Own w0 w (B ++ (A ++ L)) := h.perm (by
  rw [← List.append_assoc, ← List.append_assoc]
  exact List.perm_append_comm.append_right L)
theorem Own.mid2 {w0 w : World} {A B C L : List Ent} (h : Own w0 w (A ++ (B ++ (C ++ L)))) : Own w0 w (A ++ (C ++ (B ++ L))) := h.perm (by
  apply List.Perm.append_left
  rw [← List.append_assoc, ← List.append_assoc]
  exact List.perm_append_comm.append_right L)
theorem Dk.pool_wrote (D : Dk.Disk) (n g c : Nat) (bs : List Dk.Byte) : Dk.pool (Dk.wrote D n g c bs) = Dk.pool D ++ [(g, RowP 5 1 c (Dk.bys bs))] := by
  unfold Dk.pool Dk.wrote
  simp [List.flatMap_append, Dk.Sec.ents]
set_option maxRecDepth 20000 in
set_option maxHeartbeats 8000000 in
theorem Write_ok {w0 w : World} {L E : List Ent} {g : Nat} {a : Addr} {c : Nat} {D : Dk.Disk} {bs : List Dk.Byte} (n : Nat) (hK : Dk.Ok D) (hD : Dk.DkP g D E) (HO : Own w0 w (E ++ L)) (hn : n < D.lasts.length) (hoff : D.off = false) (hB : Bs w (.slice (some a) D.size c) bs) :
    Calls Try.prog 12 #[.pointer (some ⟨g, 0, none⟩), .int .i64 (n : Int), .slice (some a) D.size c] w fun x w' => x = .returned (.int .i64 0) ∧ ∃ gb cb E', Dk.DkP g (Dk.wrote D n gb cb bs) E' ∧ Own w0 w' (E' ++ L) := by
  have hmay : Dk.mayE D (n : Int) = 0 := by
    unfold Dk.mayE
    rw [if_neg (by omega), hoff]; rfl
  have HM := Lib.hid hmay
  have hs2 := hK.s2
  have hfew := hK.few
  have HBS := Lib.hid hB
  obtain ⟨gl, cl, wv, W, hW, hE, HO1⟩ := Dk.open_ hD HO
  have HE := Lib.hid hE
  clear hmay hoff hB hE
  obtain ⟨wl, hwl⟩ : ∃ l, D.waits = l := ⟨_, rfl⟩
  have HWL := Lib.hid hwl
  rw [hwl] at hW hfew
  have hmx : maxLen = 9223372036854775807 := rfl
  cases hW with
  | nil hwv =>
    subst hwv
    clear hwl hmx
    simp only [List.nil_append] at HO1
    go_enter Try.func12, Try.ntmps12
    go_upto_region 6 with (first | (refine li_load 0 3 rfl rfl rfl HO1 rfl rfl (by kernel_rfl) ?_) | (go_at_call 23; (refine (may_any n hD HO).mono ?_); rw [HM.out]; rintro e w2 ⟨rfl, rfl⟩))
    clear HO
    have HO := HO1
    clear HO1
    refine start_ (n := 15) (S := fun w' => w'.cell? ⟨g, 2, none⟩ = some (.slice none 0 0)) (ds := [14]) #[false, false, false, false, false, false, false, false, false, false, false, false, false, false, false] (by kernel_rfl) rfl rfl ((by first | exact HO.drew.cell 0 rfl _ rfl | exact HO.drew.cell 1 rfl _ rfl | exact HO.drew.cell 2 rfl _ rfl | exact HO.drew.cell 3 rfl _ rfl)) (fun hHeld => ?_)
    replace HO := HO.drew
    refine pure_ (i := 0) (N := some 25) (v := ?_) (a' := ?_) #[true, false, false, false, false, false, false, false, false, false, false, false, false, false, false] rfl rfl (by kernel_rfl) (fun _ _ _ h => h) (Or.inl ⟨by rfl, ?_⟩) ?_ ?_
    rotate_left
    · intro w'
      go_simp
      with_reducible rfl
    rotate_left
    · simp only [Act.put, List.setIfInBounds_toArray, List.set_cons_zero, List.set_cons_succ, i64_w, i32_w]
      rfl
    refine pure_ (i := 1) (N := some 26) (v := ?_) (a' := ?_) #[true, true, false, false, false, false, false, false, false, false, false, false, false, false, false] rfl rfl (by kernel_rfl) (fun _ _ _ h => h) (Or.inl ⟨by rfl, ?_⟩) ?_ ?_
    rotate_left
    · intro w'
      go_simp
      with_reducible rfl
    rotate_left
    · simp only [Act.put, List.setIfInBounds_toArray, List.set_cons_zero, List.set_cons_succ, i64_w, i32_w]
      rfl
    refine pure_ (i := 2) (N := some 27) (v := ?_) (a' := ?_) #[true, true, true, false, false, false, false, false, false, false, false, false, false, false, false] rfl rfl (by kernel_rfl) (fun _ _ _ h => h) (Or.inl ⟨by rfl, ?_⟩) ?_ ?_
    rotate_left
    · intro w'
      go_simp
      with_reducible rfl
    rotate_left
    · simp only [Act.put, List.setIfInBounds_toArray, List.set_cons_zero, List.set_cons_succ, i64_w, i32_w]
      rfl
    refine pure_ (i := 3) (N := some 28) (v := ?_) (a' := ?_) #[true, true, true, true, false, false, false, false, false, false, false, false, false, false, false] rfl rfl (by kernel_rfl) (fun _ _ _ h => h) (Or.inl ⟨by rfl, ?_⟩) ?_ ?_
    rotate_left
    · intro w'
      go_simp
      with_reducible rfl
    rotate_left
    · simp only [Act.put, List.setIfInBounds_toArray, List.set_cons_zero, List.set_cons_succ, i64_w, i32_w]
      rfl
    refine pure_ (i := 5) (N := some 30) (v := ?_) (a' := ?_) #[true, true, true, true, false, true, false, false, false, false, false, false, false, false, false] rfl rfl (by kernel_rfl) (fun _ _ _ h => h) (Or.inl ⟨by rfl, ?_⟩) ?_ ?_
    rotate_left
    · intro w'
      go_simp
      with_reducible rfl
    rotate_left
    · simp only [Act.put, List.setIfInBounds_toArray, List.set_cons_zero, List.set_cons_succ, i64_w, i32_w]
      rfl
    refine pure_ (i := 6) (N := some 31) (v := ?_) (a' := ?_) #[true, true, true, true, false, true, true, false, false, false, false, false, false, false, false] rfl rfl (by kernel_rfl) (fun _ _ _ h => h) (Or.inl ⟨by rfl, ?_⟩) ?_ ?_
    rotate_left
    · intro w'
      go_simp
      with_reducible rfl
    rotate_left
    · simp only [Act.put, List.setIfInBounds_toArray, List.set_cons_zero, List.set_cons_succ, i64_w, i32_w]
      rfl
    refine take_ (i := 4) (N := some 29) (v := ?_) (a' := ?_) #[true, true, true, true, true, true, true, false, false, false, false, false, false, false, false] rfl rfl (by kernel_rfl) (fun _ _ _ h => h) (Or.inl ⟨by rfl, ?_⟩) hHeld ?_ ?_
    rotate_left
    · intro w' s0
      go_simp
      with_reducible rfl
    rotate_left
    · simp only [Act.put, List.setIfInBounds_toArray, List.set_cons_zero, List.set_cons_succ, i64_w, i32_w]
      rfl
    refine one_ (i := 7) (N := some 32) #[true, true, true, true, true, true, true, true, false, false, false, false, false, false, false] rfl rfl (by kernel_rfl) (by decide) (fun K hK => ?_)
    refine goes_ Try.func24 (by kernel_rfl) rfl #[.slice (some a) D.size c] (by rfl) rfl rfl (by simp only [List.map_toArray, List.map_cons, List.map_nil]; rfl) ?_
    with_reducible refine (Clone_some HO (Bs_below HBS.out (Below.refl _ _).drew) (by omega)).mono ?_
    rintro e w1 ⟨gq, cq, rfl, HO1⟩
    refine ⟨_, rfl, ?_⟩
    clear HO
    have HO := HO1
    clear HO1
    refine hK.out _ _ ((by first | exact HO.cell 0 rfl _ rfl | exact HO.cell 1 rfl _ rfl | exact HO.cell 2 rfl _ rfl | exact HO.cell 3 rfl _ rfl)) (fun hHeld => ?_)
    clear hK K
    refine norm_ (a' := ?_) ?_ ?_
    rotate_left
    · show Act.put _ (some 32) _ = _
      simp only [Act.put, List.setIfInBounds_toArray, List.set_cons_zero, List.set_cons_succ, i64_w, i32_w]
      rfl
    refine pure_ (i := 8) (N := some 33) (v := ?_) (a' := ?_) #[true, true, true, true, true, true, true, true, true, false, false, false, false, false, false] rfl rfl (by kernel_rfl) (fun _ _ _ h => h) (Or.inl ⟨by rfl, ?_⟩) ?_ ?_
    rotate_left
    · intro w'
      go_simp
      with_reducible rfl
    rotate_left
    · simp only [Act.put, List.setIfInBounds_toArray, List.set_cons_zero, List.set_cons_succ, i64_w, i32_w]
      rfl
    refine pure_ (i := 9) (N := some 34) (v := ?_) (a' := ?_) #[true, true, true, true, true, true, true, true, true, true, false, false, false, false, false] rfl rfl (by kernel_rfl) (fun _ _ _ h => h) (Or.inl ⟨by rfl, ?_⟩) ?_ ?_
    rotate_left
    · intro w'
      go_simp
      with_reducible rfl
    rotate_left
    · simp only [Act.put, List.setIfInBounds_toArray, List.set_cons_zero, List.set_cons_succ, i64_w, i32_w]
      rfl
    refine one_ (i := 10) (N := some 35) #[true, true, true, true, true, true, true, true, true, true, true, false, false, false, false] rfl rfl (by kernel_rfl) (by decide) (fun K hK => ?_)
    refine st_bslice 60 4 rfl rfl (by go_simp; rfl) rfl (by decide) HO ?_
    clear HO
    intro gn wn HO
    refine hK.out _ _ ((by first | exact HO.cell 0 rfl _ rfl | exact HO.cell 1 rfl _ rfl | exact HO.cell 2 rfl _ rfl | exact HO.cell 3 rfl _ rfl)) (fun hHeld => ?_)
    clear hK K
    refine norm_ (a' := ?_) ?_ ?_
    rotate_left
    · show Act.put _ (some 35) _ = _
      simp only [Act.put, List.setIfInBounds_toArray, List.set_cons_zero, List.set_cons_succ, i64_w, i32_w]
      rfl
    refine one_ (i := 11) (N := some 36) #[true, true, true, true, true, true, true, true, true, true, true, true, false, false, false] rfl rfl (by kernel_rfl) (by decide) (fun K hK => ?_)
    refine st_append_nil1 el130 rfl rfl rfl HO rfl rfl rfl (by decide) (by decide) (by decide) ?_
    clear HO
    intro gm cm wm hcm HO
    refine hK.out _ _ ((by first | exact HO.cell 0 rfl _ rfl | exact HO.cell 1 rfl _ rfl | exact HO.cell 2 rfl _ rfl | exact HO.cell 3 rfl _ rfl)) (fun hHeld => ?_)
    clear hK K
    refine norm_ (a' := ?_) ?_ ?_
    rotate_left
    · show Act.put _ (some 36) _ = _
      simp only [Act.put, List.setIfInBounds_toArray, List.set_cons_zero, List.set_cons_succ, i64_w, i32_w]
      rfl
    refine pure_ (i := 12) (N := some 37) (v := ?_) (a' := ?_) #[true, true, true, true, true, true, true, true, true, true, true, true, true, false, false] rfl rfl (by kernel_rfl) (fun _ _ _ h => h) (Or.inl ⟨by rfl, ?_⟩) ?_ ?_
    rotate_left
    · intro w'
      go_simp
      with_reducible rfl
    rotate_left
    · simp only [Act.put, List.setIfInBounds_toArray, List.set_cons_zero, List.set_cons_succ, i64_w, i32_w]
      rfl
    refine pure_ (i := 13) (N := some 38) (v := ?_) (a' := ?_) #[true, true, true, true, true, true, true, true, true, true, true, true, true, true, false] rfl rfl (by kernel_rfl) (fun _ _ _ h => h) (Or.inl ⟨by rfl, ?_⟩) ?_ ?_
    rotate_left
    · intro w'
      go_simp
      with_reducible rfl
    rotate_left
    · simp only [Act.put, List.setIfInBounds_toArray, List.set_cons_zero, List.set_cons_succ, i64_w, i32_w]
      rfl
    refine last_ (i := 14) (N := none) #[true, true, true, true, true, true, true, true, true, true, true, true, true, true, true] rfl rfl (by kernel_rfl) (by decide) (fun K hK => ?_)
    first | refine st_storeSlice 0 60 rfl rfl rfl rfl HO rfl rfl (by simp) (by kernel_rfl) ?_ | refine st_storeSlice 1 60 rfl rfl rfl rfl HO rfl rfl (by simp) (by kernel_rfl) ?_ | refine st_storeSlice 2 60 rfl rfl rfl rfl HO rfl rfl (by simp) (by kernel_rfl) ?_ | refine st_storeSlice 3 60 rfl rfl rfl rfl HO rfl rfl (by simp) (by kernel_rfl) ?_
    clear HO
    intro ws HO
    try simp only [List.set_cons_zero, List.set_cons_succ] at HO
    refine hK.out _ _ ?_
    clear hK K
    refine done_ (by kernel_rfl) ?_
    go_wp2_with (fail)
    go_ret
    have e1 : (Dk.wrote D n gq cq bs).waits = [(n, ⟨some (gq, cq, bs), false, false⟩)] := by simp [Dk.wrote, HWL.out]
    have hl : bs.length = D.size := by obtain ⟨_, _, h, _⟩ := HBS.out; injection h with _ h _; exact h.symm
    refine ⟨rfl, gq, cq, _, ⟨gl, cl, .slice (some ⟨gm, 0, none⟩) 1 cm, [_], by rw [e1]; exact .row _ gm cm rfl (by simp), rfl⟩, ?_⟩
    rw [Dk.pool_wrote]
    have HO2 := HO.front 2 rfl
    simp only [List.eraseIdx_cons_succ, List.eraseIdx_cons_zero] at HO2
    have HO3 := HO2.front 3 rfl
    simp only [List.eraseIdx_cons_succ, List.eraseIdx_cons_zero] at HO3
    have HO4 := HO3.front 1 rfl
    simp only [List.eraseIdx_cons_succ, List.eraseIdx_cons_zero] at HO4
    have HO5 := Own.mid2 (A := [_, _, _]) (B := [_]) (C := Dk.pool D) (L := L) HO4
    simpa [Dk.hd, Dk.wrote, Dk.wcells, Dk.Sec.cells, Dk.Sec.v, hl] using HO5
  | row _ gw cw hwv hpos =>
    subst hwv
    obtain ⟨M, hM⟩ : ∃ M, wl.length = M := ⟨_, rfl⟩
    have HL := Lib.hid (show (wl.flatMap Dk.wcells).length = M * 4 by rw [flat_len Dk.wr_len, hM])
    have HX := Lib.hid (show M + 1 ≤ maxLen by omega)
    have HMM := Lib.hid hM
    rw [hM] at HO1 hfew HE hpos
    clear hwl hmx hM
    simp only [List.cons_append, List.nil_append] at HO1
    go_enter Try.func12, Try.ntmps12
    go_upto_region 6 with (first | (refine li_load 0 3 rfl rfl rfl HO1 rfl rfl (by kernel_rfl) ?_) | (go_at_call 23; (refine (may_any n hD HO).mono ?_); rw [HM.out]; rintro e w2 ⟨rfl, rfl⟩))
    clear HO
    have HO := HO1
    clear HO1
    refine start_ (n := 15) (S := fun w' => w'.cell? ⟨g, 2, none⟩ = some (.slice (some ⟨gw, 0, none⟩) M cw)) (ds := [14]) #[false, false, false, false, false, false, false, false, false, false, false, false, false, false, false] (by kernel_rfl) rfl rfl ((by first | exact HO.drew.cell 0 rfl _ rfl | exact HO.drew.cell 1 rfl _ rfl | exact HO.drew.cell 2 rfl _ rfl | exact HO.drew.cell 3 rfl _ rfl | exact HO.drew.cell 4 rfl _ rfl)) (fun hHeld => ?_)
    replace HO := HO.drew
    refine pure_ (i := 0) (N := some 25) (v := ?_) (a' := ?_) #[true, false, false, false, false, false, false, false, false, false, false, false, false, false, false] rfl rfl (by kernel_rfl) (fun _ _ _ h => h) (Or.inl ⟨by rfl, ?_⟩) ?_ ?_
    rotate_left
    · intro w'
      go_simp
      with_reducible rfl
    rotate_left
    · simp only [Act.put, List.setIfInBounds_toArray, List.set_cons_zero, List.set_cons_succ, i64_w, i32_w]
      rfl
    refine pure_ (i := 1) (N := some 26) (v := ?_) (a' := ?_) #[true, true, false, false, false, false, false, false, false, false, false, false, false, false, false] rfl rfl (by kernel_rfl) (fun _ _ _ h => h) (Or.inl ⟨by rfl, ?_⟩) ?_ ?_
    rotate_left
    · intro w'
      go_simp
      with_reducible rfl
    rotate_left
    · simp only [Act.put, List.setIfInBounds_toArray, List.set_cons_zero, List.set_cons_succ, i64_w, i32_w]
      rfl
    refine pure_ (i := 2) (N := some 27) (v := ?_) (a' := ?_) #[true, true, true, false, false, false, false, false, false, false, false, false, false, false, false] rfl rfl (by kernel_rfl) (fun _ _ _ h => h) (Or.inl ⟨by rfl, ?_⟩) ?_ ?_
    rotate_left
    · intro w'
      go_simp
      with_reducible rfl
    rotate_left
    · simp only [Act.put, List.setIfInBounds_toArray, List.set_cons_zero, List.set_cons_succ, i64_w, i32_w]
      rfl
    refine pure_ (i := 3) (N := some 28) (v := ?_) (a' := ?_) #[true, true, true, true, false, false, false, false, false, false, false, false, false, false, false] rfl rfl (by kernel_rfl) (fun _ _ _ h => h) (Or.inl ⟨by rfl, ?_⟩) ?_ ?_
    rotate_left
    · intro w'
      go_simp
      with_reducible rfl
    rotate_left
    · simp only [Act.put, List.setIfInBounds_toArray, List.set_cons_zero, List.set_cons_succ, i64_w, i32_w]
      rfl
    refine pure_ (i := 5) (N := some 30) (v := ?_) (a' := ?_) #[true, true, true, true, false, true, false, false, false, false, false, false, false, false, false] rfl rfl (by kernel_rfl) (fun _ _ _ h => h) (Or.inl ⟨by rfl, ?_⟩) ?_ ?_
    rotate_left
    · intro w'
      go_simp
      with_reducible rfl
    rotate_left
    · simp only [Act.put, List.setIfInBounds_toArray, List.set_cons_zero, List.set_cons_succ, i64_w, i32_w]
      rfl
    refine pure_ (i := 6) (N := some 31) (v := ?_) (a' := ?_) #[true, true, true, true, false, true, true, false, false, false, false, false, false, false, false] rfl rfl (by kernel_rfl) (fun _ _ _ h => h) (Or.inl ⟨by rfl, ?_⟩) ?_ ?_
    rotate_left
    · intro w'
      go_simp
      with_reducible rfl
    rotate_left
    · simp only [Act.put, List.setIfInBounds_toArray, List.set_cons_zero, List.set_cons_succ, i64_w, i32_w]
      rfl
    refine take_ (i := 4) (N := some 29) (v := ?_) (a' := ?_) #[true, true, true, true, true, true, true, false, false, false, false, false, false, false, false] rfl rfl (by kernel_rfl) (fun _ _ _ h => h) (Or.inl ⟨by rfl, ?_⟩) hHeld ?_ ?_
    rotate_left
    · intro w' s0
      go_simp
      with_reducible rfl
    rotate_left
    · simp only [Act.put, List.setIfInBounds_toArray, List.set_cons_zero, List.set_cons_succ, i64_w, i32_w]
      rfl
    refine one_ (i := 7) (N := some 32) #[true, true, true, true, true, true, true, true, false, false, false, false, false, false, false] rfl rfl (by kernel_rfl) (by decide) (fun K hK => ?_)
    refine goes_ Try.func24 (by kernel_rfl) rfl #[.slice (some a) D.size c] (by rfl) rfl rfl (by simp only [List.map_toArray, List.map_cons, List.map_nil]; rfl) ?_
    with_reducible refine (Clone_some HO (Bs_below HBS.out (Below.refl _ _).drew) (by omega)).mono ?_
    rintro e w1 ⟨gq, cq, rfl, HO1⟩
    refine ⟨_, rfl, ?_⟩
    clear HO
    have HO := HO1
    clear HO1
    refine hK.out _ _ ((by first | exact HO.cell 0 rfl _ rfl | exact HO.cell 1 rfl _ rfl | exact HO.cell 2 rfl _ rfl | exact HO.cell 3 rfl _ rfl | exact HO.cell 4 rfl _ rfl)) (fun hHeld => ?_)
    clear hK K
    refine norm_ (a' := ?_) ?_ ?_
    rotate_left
    · show Act.put _ (some 32) _ = _
      simp only [Act.put, List.setIfInBounds_toArray, List.set_cons_zero, List.set_cons_succ, i64_w, i32_w]
      rfl
    refine pure_ (i := 8) (N := some 33) (v := ?_) (a' := ?_) #[true, true, true, true, true, true, true, true, true, false, false, false, false, false, false] rfl rfl (by kernel_rfl) (fun _ _ _ h => h) (Or.inl ⟨by rfl, ?_⟩) ?_ ?_
    rotate_left
    · intro w'
      go_simp
      with_reducible rfl
    rotate_left
    · simp only [Act.put, List.setIfInBounds_toArray, List.set_cons_zero, List.set_cons_succ, i64_w, i32_w]
      rfl
    refine pure_ (i := 9) (N := some 34) (v := ?_) (a' := ?_) #[true, true, true, true, true, true, true, true, true, true, false, false, false, false, false] rfl rfl (by kernel_rfl) (fun _ _ _ h => h) (Or.inl ⟨by rfl, ?_⟩) ?_ ?_
    rotate_left
    · intro w'
      go_simp
      with_reducible rfl
    rotate_left
    · simp only [Act.put, List.setIfInBounds_toArray, List.set_cons_zero, List.set_cons_succ, i64_w, i32_w]
      rfl
    refine one_ (i := 10) (N := some 35) #[true, true, true, true, true, true, true, true, true, true, true, false, false, false, false] rfl rfl (by kernel_rfl) (by decide) (fun K hK => ?_)
    refine st_bslice 60 4 rfl rfl (by go_simp; rfl) rfl (by decide) HO ?_
    clear HO
    intro gn wn HO
    refine hK.out _ _ ((by first | exact HO.cell 0 rfl _ rfl | exact HO.cell 1 rfl _ rfl | exact HO.cell 2 rfl _ rfl | exact HO.cell 3 rfl _ rfl | exact HO.cell 4 rfl _ rfl)) (fun hHeld => ?_)
    clear hK K
    refine norm_ (a' := ?_) ?_ ?_
    rotate_left
    · show Act.put _ (some 35) _ = _
      simp only [Act.put, List.setIfInBounds_toArray, List.set_cons_zero, List.set_cons_succ, i64_w, i32_w]
      rfl
    refine one_ (i := 11) (N := some 36) #[true, true, true, true, true, true, true, true, true, true, true, true, false, false, false] rfl rfl (by kernel_rfl) (by decide) (fun K hK => ?_)
    refine st_append_row1 3 el130 rfl rfl rfl HO rfl HL.out rfl rfl rfl (by decide) HX.out (by omega) ?_
    clear HO
    intro gm cm wm hcm HO
    simp only [List.eraseIdx_cons_succ, List.eraseIdx_cons_zero] at HO
    refine hK.out _ _ ((by first | exact HO.cell 0 rfl _ rfl | exact HO.cell 1 rfl _ rfl | exact HO.cell 2 rfl _ rfl | exact HO.cell 3 rfl _ rfl | exact HO.cell 4 rfl _ rfl)) (fun hHeld => ?_)
    clear hK K
    refine norm_ (a' := ?_) ?_ ?_
    rotate_left
    · show Act.put _ (some 36) _ = _
      simp only [Act.put, List.setIfInBounds_toArray, List.set_cons_zero, List.set_cons_succ, i64_w, i32_w]
      rfl
    refine pure_ (i := 12) (N := some 37) (v := ?_) (a' := ?_) #[true, true, true, true, true, true, true, true, true, true, true, true, true, false, false] rfl rfl (by kernel_rfl) (fun _ _ _ h => h) (Or.inl ⟨by rfl, ?_⟩) ?_ ?_
    rotate_left
    · intro w'
      go_simp
      with_reducible rfl
    rotate_left
    · simp only [Act.put, List.setIfInBounds_toArray, List.set_cons_zero, List.set_cons_succ, i64_w, i32_w]
      rfl
    refine pure_ (i := 13) (N := some 38) (v := ?_) (a' := ?_) #[true, true, true, true, true, true, true, true, true, true, true, true, true, true, false] rfl rfl (by kernel_rfl) (fun _ _ _ h => h) (Or.inl ⟨by rfl, ?_⟩) ?_ ?_
    rotate_left
    · intro w'
      go_simp
      with_reducible rfl
    rotate_left
    · simp only [Act.put, List.setIfInBounds_toArray, List.set_cons_zero, List.set_cons_succ, i64_w, i32_w]
      rfl
    refine last_ (i := 14) (N := none) #[true, true, true, true, true, true, true, true, true, true, true, true, true, true, true] rfl rfl (by kernel_rfl) (by decide) (fun K hK => ?_)
    first | refine st_storeSlice 0 60 rfl rfl rfl rfl HO rfl rfl (by simp) (by kernel_rfl) ?_ | refine st_storeSlice 1 60 rfl rfl rfl rfl HO rfl rfl (by simp) (by kernel_rfl) ?_ | refine st_storeSlice 2 60 rfl rfl rfl rfl HO rfl rfl (by simp) (by kernel_rfl) ?_ | refine st_storeSlice 3 60 rfl rfl rfl rfl HO rfl rfl (by simp) (by kernel_rfl) ?_ | refine st_storeSlice 4 60 rfl rfl rfl rfl HO rfl rfl (by simp) (by kernel_rfl) ?_
    clear HO
    intro ws HO
    try simp only [List.set_cons_zero, List.set_cons_succ] at HO
    refine hK.out _ _ ?_
    clear hK K
    refine done_ (by kernel_rfl) ?_
    go_wp2_with (fail)
    go_ret
    have e1 : (Dk.wrote D n gq cq bs).waits = wl ++ [(n, ⟨some (gq, cq, bs), false, false⟩)] := by simp [Dk.wrote, HWL.out]
    have hl : bs.length = D.size := by obtain ⟨_, _, h, _⟩ := HBS.out; injection h with _ h _; exact h.symm
    have e2 : (wl ++ [((n, ⟨some (gq, cq, bs), false, false⟩) : Nat × Dk.Sec)]).length = M + 1 := by simp [HMM.out]
    refine ⟨rfl, gq, cq, _, ⟨gl, cl, .slice (some ⟨gm, 0, none⟩) (M + 1) cm, [_], by rw [e1, ← e2]; exact .row _ gm cm rfl (by simp), rfl⟩, ?_⟩
    rw [Dk.pool_wrote]
    have HO2 := HO.front 2 rfl
    simp only [List.eraseIdx_cons_succ, List.eraseIdx_cons_zero] at HO2
    have HO3 := HO2.front 3 rfl
    simp only [List.eraseIdx_cons_succ, List.eraseIdx_cons_zero] at HO3
    have HO4 := HO3.front 1 rfl
    simp only [List.eraseIdx_cons_succ, List.eraseIdx_cons_zero] at HO4
    have HO5 := Own.mid2 (A := [_, _, _]) (B := [_]) (C := Dk.pool D) (L := L) HO4
    simpa [Dk.hd, Dk.wrote, Dk.wcells, Dk.Sec.cells, Dk.Sec.v, hl, List.flatMap_append] using HO5
end Go.Proofs.Ytbgjfdeolckljaa

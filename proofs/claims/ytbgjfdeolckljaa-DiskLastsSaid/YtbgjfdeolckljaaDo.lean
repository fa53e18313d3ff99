/- A disk's Rot. -/
import Derived.Test.YtbgjfdeolckljaaDn
namespace Go.Proofs.Ytbgjfdeolckljaa
set_option linter.unusedVariables false
set_option linter.unusedSimpArgs false
set_option linter.unnecessarySimpa false
open Go.RowKit Go.Proofs.YtbgjfdeolckljaaW.PrintLast
theorem Own.frontApp {w0 w : World} {A X : List Ent} {j : Nat} {x : Ent} (h : Own w0 w (A ++ X)) (hj : X[j]? = some x) : Own w0 w (x :: (A ++ X.eraseIdx j)) :=
  h.perm (((perm_front X j x hj).append_left A).trans List.perm_middle)
theorem Dk.lastW_get {n : Nat} : ∀ {l : List (Nat × Dk.Sec)} {i : Nat}, Dk.lastW l n = some i → ∃ s, l[i]? = some (n, s)
  | [], i, h => by cases h
  | x :: l, i, h => by
    unfold Dk.lastW at h
    cases hl : Dk.lastW l n with
    | some j =>
      rw [hl] at h
      injection h with h
      subst h
      obtain ⟨s, hs⟩ := Dk.lastW_get hl
      exact ⟨s, by simpa using hs⟩
    | none =>
      rw [hl] at h
      simp at h
      obtain ⟨h1, h2⟩ := h
      subst h2
      obtain ⟨a, s⟩ := x
      simp at h1
      subst h1
      exact ⟨s, rfl⟩
set_option maxRecDepth 20000 in
theorem Rot_arg {w0 w : World} {L E : List Ent} {g : Nat} {D : Dk.Disk} (n bit : Int) (hD : Dk.DkP g D E) (HO : Own w0 w (E ++ L)) (hs : D.size ≤ 4096) (h : bit < 0 ∨ (D.size : Int) * 8 ≤ bit) :
    Calls Try.prog 19 #[.pointer (some ⟨g, 0, none⟩), .int .i64 n, .int .i64 bit] w fun x w' => x = .returned (.int .i64 1) ∧ w = w' := by
  obtain ⟨gl, cl, wv, W, hW, hE, HO1⟩ := Dk.open_ hD HO
  have hw8 : IntKind.i64.wrap ((D.size : Int) * 8) = (D.size : Int) * 8 := IntWalk.i64_in _ (by omega)
  by_cases h0 : bit < 0
  · have d1 : decide (bit < 0) = true := decide_eq_true h0
    clear hE h
    go_enter Try.func19, Try.ntmps19
    go_wp2_with (refine li_load 0 3 rfl rfl rfl HO1 rfl rfl (by kernel_rfl) ?_)
    go_ret
    exact ⟨rfl, rfl⟩
  · have d1 : decide (bit < 0) = false := decide_eq_false h0
    have d2 : decide ((D.size : Int) * 8 ≤ bit) = true := decide_eq_true (by omega)
    clear hE h
    go_enter Try.func19, Try.ntmps19
    go_wp2_with (refine li_load 0 3 rfl rfl rfl HO1 rfl rfl (by kernel_rfl) ?_)
    go_ret
    exact ⟨rfl, rfl⟩
set_option maxRecDepth 20000 in
theorem Rot_turned {w0 w : World} {L E : List Ent} {g : Nat} {D : Dk.Disk} (n bit : Nat) (hK : Dk.Ok D) (hD : Dk.DkP g D E) (HO : Own w0 w (E ++ L)) (hn : n < D.lasts.length) (hoff : D.off = false) (hb : bit < D.size * 8) (ht : (Dk.toldS D n).torn = false) (hu : (Dk.toldS D n).turned = true) :
    Calls Try.prog 19 #[.pointer (some ⟨g, 0, none⟩), .int .i64 (n : Int), .int .i64 (bit : Int)] w fun x w' => x = .returned (.int .i64 11) ∧ w = w' := by
  have hmay : Dk.mayE D (n : Int) = 0 := by
    unfold Dk.mayE
    rw [if_neg (by omega), hoff]; rfl
  have HM := Lib.hid hmay
  obtain ⟨gl, cl, wv, W, hW, hE, HO1⟩ := Dk.open_ hD HO
  have HTOLD := Lib.hid (told_any (L := Dk.pool D ++ L) n hW (by simpa using HO1) hn (by have := hK.n2; omega) (by have := hK.few; omega))
  have hs2 := hK.s2
  have hw8 : IntKind.i64.wrap ((D.size : Int) * 8) = (D.size : Int) * 8 := IntWalk.i64_in _ (by omega)
  have d1 : decide ((bit : Int) < 0) = false := decide_eq_false (by omega)
  have d2 : decide ((D.size : Int) * 8 ≤ (bit : Int)) = false := decide_eq_false (by omega)
  have HT := Lib.hid ht
  have HU := Lib.hid hu
  clear hmay hE ht hu hoff
  go_enter Try.func19, Try.ntmps19
  go_wp2_with (first | (refine li_load 0 3 rfl rfl rfl HO1 rfl rfl (by kernel_rfl) ?_) | (go_at_call 23; (refine (may_any n hD HO).mono ?_); rw [HM.out]; rintro e w2 ⟨rfl, rfl⟩))
  go_at_call 25; refine HTOLD.out.mono ?_; rintro e w2 ⟨b, off, rfl, hat, hc, rfl⟩
  have c2 : w.cell? ⟨b, off + 2, none⟩ = some (.bool false) := hc 2 _ (by rw [← HT.out]; rfl)
  have c1 : w.cell? ⟨b, off + 1, none⟩ = some (.bool true) := hc 1 _ (by rw [← HU.out]; rfl)
  clear hc hat
  go_wp2_with (first | (refine li_loadAt 4 rfl rfl rfl c2 (by kernel_rfl) ?_) | (refine li_loadAt 4 rfl rfl rfl c1 (by kernel_rfl) ?_))
  go_ret
  exact ⟨rfl, rfl⟩
set_option maxRecDepth 20000 in
set_option maxHeartbeats 8000000 in
theorem Rot_some {w0 w : World} {L E : List Ent} {g gs cs : Nat} {bs : List Dk.Byte} {D : Dk.Disk} (n bit : Nat) (hK : Dk.Ok D) (hD : Dk.DkP g D E) (HO : Own w0 w (E ++ L)) (hn : n < D.lasts.length) (hoff : D.off = false) (hb : bit < D.size * 8) (hts : Dk.toldS D n = ⟨some (gs, cs, bs), false, false⟩) :
    Calls Try.prog 19 #[.pointer (some ⟨g, 0, none⟩), .int .i64 (n : Int), .int .i64 (bit : Int)] w fun x w' => x = .returned (.int .i64 0) ∧ ∃ E', Dk.DkP g (Dk.rotted D n gs cs bit bs) E' ∧ Own w0 w' (E' ++ L) := by
  have hmay : Dk.mayE D (n : Int) = 0 := by
    unfold Dk.mayE
    rw [if_neg (by omega), hoff]; rfl
  have HM := Lib.hid hmay
  obtain ⟨gl, cl, wv, W, hW, hE, HO1⟩ := Dk.open_ hD HO
  have htold := told_any (L := Dk.pool D ++ L) n hW (by simpa using HO1) hn (by have := hK.n2; omega) (by have := hK.few; omega)
  rw [hts] at htold
  have HTOLD := Lib.hid htold
  have hs2 := hK.s2
  have hblk : (Dk.toldS D n).blk = some (gs, cs, bs) := by rw [hts]
  have hbl := Dk.told_size hK hn hblk
  obtain ⟨j, hj⟩ := List.getElem?_of_mem (List.mem_append_left L (Dk.ents_mem hn hblk))
  have hw8 : IntKind.i64.wrap ((D.size : Int) * 8) = (D.size : Int) * 8 := IntWalk.i64_in _ (by omega)
  have d1 : decide ((bit : Int) < 0) = false := decide_eq_false (by omega)
  have d2 : decide ((D.size : Int) * 8 ≤ (bit : Int)) = false := decide_eq_false (by omega)
  have g1 : (bit : Int).tdiv 8 = ((bit / 8 : Nat) : Int) := by rw [Int.tdiv_eq_ediv_of_nonneg (by omega)]; rfl
  have g2 : (bit : Int).tmod 8 = ((bit % 8 : Nat) : Int) := by rw [Int.tmod_eq_emod_of_nonneg (by omega)]; rfl
  have g1' : (bit : Int) / 8 = ((bit / 8 : Nat) : Int) := rfl
  have g2' : (bit : Int) % 8 = ((bit % 8 : Nat) : Int) := rfl
  obtain ⟨x, y, z, f1, f2, f3, f4, f5, f6, f7, f8⟩ := Dk.flipB_val bs bit (by omega)
  obtain ⟨I, hI⟩ : ∃ I, bit / 8 = I := ⟨_, rfl⟩
  obtain ⟨M, hM⟩ : ∃ M, bit % 8 = M := ⟨_, rfl⟩
  have hM8 : M < 8 := by omega
  have hIs : I < D.size := by omega
  rw [hI] at f1 f8 g1 g1'
  rw [hM] at f4 g2 g2'
  have h1 : IntKind.i64.wrap (I : Int) = (I : Int) := IntWalk.i64_in _ (by omega)
  have h2 : IntKind.i64.wrap (M : Int) = (M : Int) := IntWalk.i64_in _ (by omega)
  have i0 : (0 : Int) ≤ (I : Int) := by omega
  have i1 : (I : Int) < (D.size : Int) := by omega
  have i2 : (0 : Int) ≤ (M : Int) := by omega
  have i3 : (M : Int) < 8 := by omega
  have hlh : I < (Dk.bys bs).length := by rw [Dk.bys_len, hbl]; omega
  have hv : (Dk.Sec.v ⟨some (gs, cs, bs), false, false⟩) = .slice (some ⟨gs, 0, none⟩) D.size cs := by unfold Dk.Sec.v; rw [← hbl]
  have hv2 : (Dk.Sec.v ⟨some (gs, cs, Dk.flipB bs bit), true, false⟩) = .slice (some ⟨gs, 0, none⟩) D.size cs := by unfold Dk.Sec.v; rw [← hbl, ← Dk.flipB_len bs bit]
  have hq : ∀ (w : World) (a : Option Addr) (n c : Nat), (binOp .eql 35 (.slice a n c) (.slice none 0 0)).run Try.prog w = .ok (.bool a.isNone) w := fun w a n c => eql_slice_nil w 35 5 a n c Try.underlying35
  have F8 := Lib.hid f8
  have HV := Lib.hid hv
  have HV2 := Lib.hid hv2
  have HJ := Lib.hid hj
  have HBLK := Lib.hid hblk
  have HTS := Lib.hid hts
  have HOO := Lib.hid HO1
  clear htold hmay hE hts hblk hj hI hM hv hv2 f8
  go_enter Try.func19, Try.ntmps19
  go_wp2_with (first | (refine li_load 0 3 rfl rfl rfl HO1 rfl rfl (by kernel_rfl) ?_) | (go_at_call 23; (refine (may_any n hD HO).mono ?_); rw [HM.out]; rintro e w2 ⟨rfl, rfl⟩))
  go_at_call 25; refine HTOLD.out.mono ?_; rintro e w2 ⟨b, off, rfl, hat, hc, rfl⟩
  have c0 : w.cell? ⟨b, off, none⟩ = some (.slice (some ⟨gs, 0, none⟩) D.size cs) := hc 0 _ (by rw [← HV.out]; rfl)
  have c1 : w.cell? ⟨b, off + 1, none⟩ = some (.bool false) := hc 1 _ rfl
  have c2 : w.cell? ⟨b, off + 2, none⟩ = some (.bool false) := hc 2 _ rfl
  clear hc
  go_upto_region 13 with (first | (refine li_loadAt 4 rfl rfl rfl c2 (by kernel_rfl) ?_) | (refine li_loadAt 4 rfl rfl rfl c1 (by kernel_rfl) ?_) | (refine li_loadAt 35 rfl rfl rfl c0 (by kernel_rfl) ?_))
  have hf4 : IntKind.u8.wrap (2 ^ M) = y := by rw [IntKind.wrap_u8']; exact f4
  have HF4 := Lib.hid hf4
  have HF5 := Lib.hid f5
  clear hf4 HO HO1
  have hwl : ∃ l, D.waits = l := ⟨_, rfl⟩
  have hW0 := hW
  obtain ⟨wl, hwl⟩ := hwl
  rw [hwl] at hW
  cases hW with
  | nil hwv =>
    subst hwv
    rcases hat with ⟨i, c, hl, hWe, rfl⟩ | ⟨hl, hbg, hof⟩
    · cases hWe
    · have hbg2 := hbg.symm
      have hof2 := hof.symm
      clear hbg hof
      subst hbg2 hof2
      have hD' : Dk.rotted D n gs cs bit bs = { D with lasts := D.lasts.set n ⟨some (gs, cs, Dk.flipB bs bit), true, false⟩ } := by unfold Dk.rotted Dk.putS; rw [hl]
      have hs : D.lasts[n]? = some ⟨some (gs, cs, bs), false, false⟩ := by
        have := HTS.out
        unfold Dk.toldS at this
        rw [hl] at this
        simp only [] at this
        rw [List.getD_eq_getElem?_getD, List.getElem?_eq_getElem hn] at this
        rw [List.getElem?_eq_getElem hn]; simpa using this
      have hget : (D.lasts.flatMap Dk.Sec.cells)[n * 3]? = some (.slice (some ⟨gs, 0, none⟩) D.size cs) := by
        have := flat_get Dk.sec_len D.lasts n _ 0 hs (by decide)
        rw [Nat.add_zero] at this
        rw [this, ← HV.out]; rfl
      have hset : (D.lasts.flatMap Dk.Sec.cells).set (n * 3 + 1) (.bool true) = (D.lasts.set n ⟨some (gs, cs, Dk.flipB bs bit), true, false⟩).flatMap Dk.Sec.cells :=
        flat_set1 Dk.sec_len D.lasts n 1 _ _ _ hs (by decide) (by unfold Dk.Sec.cells; rw [HV.out, HV2.out]; rfl)
      have hlf : n * 3 + 1 < (D.lasts.flatMap Dk.Sec.cells).length := by rw [flat_len Dk.sec_len]; omega
      have HO := Own.frontApp (A := (g, CellsP 62 [.int .i64 (D.size : Int), .slice (some ⟨gl, 0, none⟩) D.lasts.length cl, .slice none 0 0, .bool D.off]) :: (gl, RowP 65 3 cl (D.lasts.flatMap Dk.Sec.cells)) :: []) (X := Dk.pool D ++ L) (by simpa using HOO.out) HJ.out
      simp only [List.cons_append, List.nil_append] at HO
      have HD' := Lib.hid hD'
      have HSET := Lib.hid hset
      have HWW := Lib.hid hW0
      clear hs hset hD' hl hW0 hwl
      refine start_ (n := 14) (S := fun w' => w'.cell? ⟨gl, n * 3, none⟩ = some (.slice (some ⟨gs, 0, none⟩) D.size cs) ∧ w'.cell? ⟨gs, I, none⟩ = some (.int .u8 x)) (ds := [13]) #[false, false, false, false, false, false, false, false, false, false, false, false, false, false] (by kernel_rfl) rfl rfl ⟨(HO.drew.rowCell 2 rfl (n * 3) hget), (HO.drew.rowCell 0 rfl I f1)⟩ (fun hHeld => ?_)
      replace HO := HO.drew
      refine pure_ (i := 0) (N := some 57) (v := ?_) (a' := ?_) #[true, false, false, false, false, false, false, false, false, false, false, false, false, false] rfl rfl (by kernel_rfl) (fun _ _ _ h => h) (Or.inl ⟨by rfl, ?_⟩) ?_ ?_
      rotate_left
      · intro w'
        go_simp
        with_reducible rfl
      rotate_left
      · simp only [Act.put, List.setIfInBounds_toArray, List.set_cons_zero, List.set_cons_succ, i64_w, i32_w]
        rfl
      refine pure_ (i := 1) (N := some 58) (v := ?_) (a' := ?_) #[true, true, false, false, false, false, false, false, false, false, false, false, false, false] rfl rfl (by kernel_rfl) (fun _ _ _ h => h) (Or.inl ⟨by rfl, ?_⟩) ?_ ?_
      rotate_left
      · intro w'
        go_simp
        with_reducible rfl
      rotate_left
      · simp only [Act.put, List.setIfInBounds_toArray, List.set_cons_zero, List.set_cons_succ, i64_w, i32_w]
        rfl
      refine pure_ (i := 2) (N := some 59) (v := ?_) (a' := ?_) #[true, true, true, false, false, false, false, false, false, false, false, false, false, false] rfl rfl (by kernel_rfl) (fun _ _ _ h => h) (Or.inl ⟨by rfl, ?_⟩) ?_ ?_
      rotate_left
      · intro w'
        go_simp
        with_reducible rfl
      rotate_left
      · simp only [Act.put, List.setIfInBounds_toArray, List.set_cons_zero, List.set_cons_succ, i64_w, i32_w]
        rfl
      refine pure_ (i := 4) (N := some 61) (v := ?_) (a' := ?_) #[true, true, true, false, true, false, false, false, false, false, false, false, false, false] rfl rfl (by kernel_rfl) (fun _ _ _ h => h) (Or.inl ⟨by rfl, ?_⟩) ?_ ?_
      rotate_left
      · intro w'
        go_simp
        with_reducible rfl
      rotate_left
      · simp only [Act.put, List.setIfInBounds_toArray, List.set_cons_zero, List.set_cons_succ, i64_w, i32_w]
        rfl
      refine pure_ (i := 5) (N := some 62) (v := ?_) (a' := ?_) #[true, true, true, false, true, true, false, false, false, false, false, false, false, false] rfl rfl (by kernel_rfl) (fun _ _ _ h => h) (Or.inl ⟨by rfl, ?_⟩) ?_ ?_
      rotate_left
      · intro w'
        go_simp
        with_reducible rfl
      rotate_left
      · simp only [Act.put, List.setIfInBounds_toArray, List.set_cons_zero, List.set_cons_succ, i64_w, i32_w]
        rfl
      refine pure_ (i := 8) (N := some 65) (v := ?_) (a' := ?_) #[true, true, true, false, true, true, false, false, true, false, false, false, false, false] rfl rfl (by kernel_rfl) (fun _ _ _ h => h) (Or.inl ⟨by rfl, ?_⟩) ?_ ?_
      rotate_left
      · intro w'
        go_simp
        with_reducible rfl
      rotate_left
      · simp only [Act.put, List.setIfInBounds_toArray, List.set_cons_zero, List.set_cons_succ, i64_w, i32_w]
        rfl
      refine pure_ (i := 9) (N := some 66) (v := ?_) (a' := ?_) #[true, true, true, false, true, true, false, false, true, true, false, false, false, false] rfl rfl (by kernel_rfl) (fun _ _ _ h => h) (Or.inl ⟨by rfl, ?_⟩) ?_ ?_
      rotate_left
      · intro w'
        go_simp
        with_reducible rfl
      rotate_left
      · simp only [Act.put, List.setIfInBounds_toArray, List.set_cons_zero, List.set_cons_succ, i64_w, i32_w]
        rfl
      refine pure_ (i := 10) (N := some 67) (v := ?_) (a' := ?_) #[true, true, true, false, true, true, false, false, true, true, true, false, false, false] rfl rfl (by kernel_rfl) (fun _ _ _ h => h) (Or.inl ⟨by rfl, ?_⟩) ?_ ?_
      rotate_left
      · intro w'
        go_simp
        with_reducible rfl
      rotate_left
      · simp only [Act.put, List.setIfInBounds_toArray, List.set_cons_zero, List.set_cons_succ, i64_w, i32_w]
        rfl
      refine take_ (i := 3) (N := some 60) (v := ?_) (a' := ?_) #[true, true, true, true, true, true, false, false, true, true, true, false, false, false] rfl rfl (by kernel_rfl) (fun _ _ _ h => h) (Or.inl ⟨by rfl, ?_⟩) hHeld ?_ ?_
      rotate_left
      · rintro w' ⟨s0, s1⟩
        go_simp
        with_reducible rfl
      rotate_left
      · simp only [Act.put, List.setIfInBounds_toArray, List.set_cons_zero, List.set_cons_succ, i64_w, i32_w]
        rfl
      refine pure_ (i := 6) (N := some 63) (v := ?_) (a' := ?_) #[true, true, true, true, true, true, true, false, true, true, true, false, false, false] rfl rfl (by kernel_rfl) (fun _ _ _ h => h) (Or.inl ⟨by rfl, ?_⟩) ?_ ?_
      rotate_left
      · intro w'
        go_simp
        with_reducible rfl
      rotate_left
      · simp only [Act.put, List.setIfInBounds_toArray, List.set_cons_zero, List.set_cons_succ, i64_w, i32_w]
        rfl
      refine take_ (i := 7) (N := some 64) (v := ?_) (a' := ?_) #[true, true, true, true, true, true, true, true, true, true, true, false, false, false] rfl rfl (by kernel_rfl) (fun _ _ _ h => h) (Or.inl ⟨by rfl, ?_⟩) hHeld ?_ ?_
      rotate_left
      · rintro w' ⟨s0, s1⟩
        go_simp
        with_reducible rfl
      rotate_left
      · simp only [Act.put, List.setIfInBounds_toArray, List.set_cons_zero, List.set_cons_succ, i64_w, i32_w]
        rfl
      refine pure_ (i := 11) (N := some 68) (v := ?_) (a' := ?_) #[true, true, true, true, true, true, true, true, true, true, true, true, false, false] rfl rfl (by kernel_rfl) (fun _ _ _ h => h) (Or.inl ⟨by rfl, ?_⟩) ?_ ?_
      rotate_left
      · intro w'
        go_simp
        with_reducible rfl
      rotate_left
      · simp only [Act.put, List.setIfInBounds_toArray, List.set_cons_zero, List.set_cons_succ, i64_w, i32_w]
        rfl
      refine pure_ (i := 12) (N := some 69) (v := ?_) (a' := ?_) #[true, true, true, true, true, true, true, true, true, true, true, true, true, false] rfl rfl (by kernel_rfl) (fun _ _ _ h => h) (Or.inl ⟨by rfl, ?_⟩) ?_ ?_
      rotate_left
      · intro w'
        go_simp
        with_reducible rfl
      rotate_left
      · simp only [Act.put, List.setIfInBounds_toArray, List.set_cons_zero, List.set_cons_succ, i64_w, i32_w]
        rfl
      refine last_ (i := 13) (N := none) #[true, true, true, true, true, true, true, true, true, true, true, true, true, true] rfl rfl (by kernel_rfl) (by decide) (fun K hK => ?_)
      refine st_storeRowInt 0 rfl rfl rfl (off := I) rfl HO rfl rfl hlh (by kernel_rfl) ?_
      clear HO
      intro ws HO
      simp only [List.set_cons_zero, List.set_cons_succ] at HO
      refine hK.out _ _ ?_
      clear hK K
      refine done_ (by kernel_rfl) ?_
      rw [HF4.out, HF5.out, F8.out] at HO
      go_wp2_with (refine li_storeRowBool 2 rfl rfl rfl (off := n * 3 + 1) rfl HO rfl rfl hlf (by kernel_rfl) ?_; clear HO; intro ws2 HO; simp only [List.set_cons_zero, List.set_cons_succ] at HO)
      rw [HSET.out] at HO
      go_ret
      have HF := Own.rotted (A := (g, CellsP 62 [.int .i64 (D.size : Int), .slice (some ⟨gl, 0, none⟩) D.lasts.length cl, .slice none 0 0, .bool D.off]) :: (gl, RowP 65 3 cl (D.lasts.flatMap Dk.Sec.cells)) :: []) (A' := (g, CellsP 62 [.int .i64 (D.size : Int), .slice (some ⟨gl, 0, none⟩) D.lasts.length cl, .slice none 0 0, .bool D.off]) :: (gl, RowP 65 3 cl ((D.lasts.set n ⟨some (gs, cs, Dk.flipB bs bit), true, false⟩).flatMap Dk.Sec.cells)) :: []) (D := D) (L := L) (t := true) (t' := false) hn HBLK.out (by simpa using HOO.out) HJ.out rfl HO
      refine ⟨rfl, _, ⟨gl, cl, .slice none 0 0, [], by rw [HD'.out]; exact HWW.out, rfl⟩, ?_⟩
      have e : Dk.putS D n ⟨some (gs, cs, Dk.flipB bs bit), true, false⟩ = { D with lasts := D.lasts.set n ⟨some (gs, cs, Dk.flipB bs bit), true, false⟩ } := HD'.out
      rw [e] at HF
      rw [HD'.out]
      simpa [Dk.hd] using HF
  | row _ gw cw hwv hpos =>
    subst hwv
    rcases hat with ⟨i, c, hl, hWe, rfl⟩ | ⟨hl, hbg, hof⟩
    · have hgw : gw = b := by have := congrArg (List.map (·.1)) hWe; simpa using this
      subst hgw
      have hD' : Dk.rotted D n gs cs bit bs = { D with waits := (wl.set i ((n, ⟨some (gs, cs, Dk.flipB bs bit), true, false⟩) : Nat × Dk.Sec)) } := by unfold Dk.rotted Dk.putS; rw [hl, hwl]
      have hs : wl[i]? = some ((n, ⟨some (gs, cs, bs), false, false⟩) : Nat × Dk.Sec) := by
        obtain ⟨s, hs⟩ := Dk.lastW_get hl
        have := HTS.out
        unfold Dk.toldS at this
        rw [hl] at this
        simp only [] at this
        rw [List.getD_eq_getElem?_getD, hs] at this
        simp at this
        rw [← hwl, hs, this]
      have hget : (wl.flatMap Dk.wcells)[i * 4 + 1]? = some (.slice (some ⟨gs, 0, none⟩) D.size cs) := by
        have := flat_get Dk.wr_len wl i _ 1 hs (by decide)
        rw [this, ← HV.out]; rfl
      have hset : (wl.flatMap Dk.wcells).set (i * 4 + 1 + 1) (.bool true) = (wl.set i ((n, ⟨some (gs, cs, Dk.flipB bs bit), true, false⟩) : Nat × Dk.Sec)).flatMap Dk.wcells :=
        flat_set1 Dk.wr_len wl i 2 _ _ _ hs (by decide) (by unfold Dk.wcells Dk.Sec.cells; simp only []; rw [HV.out, HV2.out]; rfl)
      have hil := (List.getElem?_eq_some_iff.1 hs).1
      have hlf : i * 4 + 1 + 1 < (wl.flatMap Dk.wcells).length := by rw [flat_len Dk.wr_len]; omega
      have HO := Own.frontApp (A := (g, CellsP 62 [.int .i64 (D.size : Int), .slice (some ⟨gl, 0, none⟩) D.lasts.length cl, .slice (some ⟨gw, 0, none⟩) wl.length cw, .bool D.off]) :: (gl, RowP 65 3 cl (D.lasts.flatMap Dk.Sec.cells)) :: [(gw, RowP 67 4 cw (wl.flatMap Dk.wcells))]) (X := Dk.pool D ++ L) (by simpa using HOO.out) HJ.out
      simp only [List.cons_append, List.nil_append] at HO
      have HD' := Lib.hid hD'
      have HSET := Lib.hid hset
      have HPOS := Lib.hid hpos
      clear hs hset hD' hl hW0 hwl hpos hWe
      refine start_ (n := 14) (S := fun w' => w'.cell? ⟨gw, i * 4 + 1, none⟩ = some (.slice (some ⟨gs, 0, none⟩) D.size cs) ∧ w'.cell? ⟨gs, I, none⟩ = some (.int .u8 x)) (ds := [13]) #[false, false, false, false, false, false, false, false, false, false, false, false, false, false] (by kernel_rfl) rfl rfl ⟨(HO.drew.rowCell 3 rfl (i * 4 + 1) hget), (HO.drew.rowCell 0 rfl I f1)⟩ (fun hHeld => ?_)
      replace HO := HO.drew
      refine pure_ (i := 0) (N := some 57) (v := ?_) (a' := ?_) #[true, false, false, false, false, false, false, false, false, false, false, false, false, false] rfl rfl (by kernel_rfl) (fun _ _ _ h => h) (Or.inl ⟨by rfl, ?_⟩) ?_ ?_
      rotate_left
      · intro w'
        go_simp
        with_reducible rfl
      rotate_left
      · simp only [Act.put, List.setIfInBounds_toArray, List.set_cons_zero, List.set_cons_succ, i64_w, i32_w]
        rfl
      refine pure_ (i := 1) (N := some 58) (v := ?_) (a' := ?_) #[true, true, false, false, false, false, false, false, false, false, false, false, false, false] rfl rfl (by kernel_rfl) (fun _ _ _ h => h) (Or.inl ⟨by rfl, ?_⟩) ?_ ?_
      rotate_left
      · intro w'
        go_simp
        with_reducible rfl
      rotate_left
      · simp only [Act.put, List.setIfInBounds_toArray, List.set_cons_zero, List.set_cons_succ, i64_w, i32_w]
        rfl
      refine pure_ (i := 2) (N := some 59) (v := ?_) (a' := ?_) #[true, true, true, false, false, false, false, false, false, false, false, false, false, false] rfl rfl (by kernel_rfl) (fun _ _ _ h => h) (Or.inl ⟨by rfl, ?_⟩) ?_ ?_
      rotate_left
      · intro w'
        go_simp
        with_reducible rfl
      rotate_left
      · simp only [Act.put, List.setIfInBounds_toArray, List.set_cons_zero, List.set_cons_succ, i64_w, i32_w]
        rfl
      refine pure_ (i := 4) (N := some 61) (v := ?_) (a' := ?_) #[true, true, true, false, true, false, false, false, false, false, false, false, false, false] rfl rfl (by kernel_rfl) (fun _ _ _ h => h) (Or.inl ⟨by rfl, ?_⟩) ?_ ?_
      rotate_left
      · intro w'
        go_simp
        with_reducible rfl
      rotate_left
      · simp only [Act.put, List.setIfInBounds_toArray, List.set_cons_zero, List.set_cons_succ, i64_w, i32_w]
        rfl
      refine pure_ (i := 5) (N := some 62) (v := ?_) (a' := ?_) #[true, true, true, false, true, true, false, false, false, false, false, false, false, false] rfl rfl (by kernel_rfl) (fun _ _ _ h => h) (Or.inl ⟨by rfl, ?_⟩) ?_ ?_
      rotate_left
      · intro w'
        go_simp
        with_reducible rfl
      rotate_left
      · simp only [Act.put, List.setIfInBounds_toArray, List.set_cons_zero, List.set_cons_succ, i64_w, i32_w]
        rfl
      refine pure_ (i := 8) (N := some 65) (v := ?_) (a' := ?_) #[true, true, true, false, true, true, false, false, true, false, false, false, false, false] rfl rfl (by kernel_rfl) (fun _ _ _ h => h) (Or.inl ⟨by rfl, ?_⟩) ?_ ?_
      rotate_left
      · intro w'
        go_simp
        with_reducible rfl
      rotate_left
      · simp only [Act.put, List.setIfInBounds_toArray, List.set_cons_zero, List.set_cons_succ, i64_w, i32_w]
        rfl
      refine pure_ (i := 9) (N := some 66) (v := ?_) (a' := ?_) #[true, true, true, false, true, true, false, false, true, true, false, false, false, false] rfl rfl (by kernel_rfl) (fun _ _ _ h => h) (Or.inl ⟨by rfl, ?_⟩) ?_ ?_
      rotate_left
      · intro w'
        go_simp
        with_reducible rfl
      rotate_left
      · simp only [Act.put, List.setIfInBounds_toArray, List.set_cons_zero, List.set_cons_succ, i64_w, i32_w]
        rfl
      refine pure_ (i := 10) (N := some 67) (v := ?_) (a' := ?_) #[true, true, true, false, true, true, false, false, true, true, true, false, false, false] rfl rfl (by kernel_rfl) (fun _ _ _ h => h) (Or.inl ⟨by rfl, ?_⟩) ?_ ?_
      rotate_left
      · intro w'
        go_simp
        with_reducible rfl
      rotate_left
      · simp only [Act.put, List.setIfInBounds_toArray, List.set_cons_zero, List.set_cons_succ, i64_w, i32_w]
        rfl
      refine take_ (i := 3) (N := some 60) (v := ?_) (a' := ?_) #[true, true, true, true, true, true, false, false, true, true, true, false, false, false] rfl rfl (by kernel_rfl) (fun _ _ _ h => h) (Or.inl ⟨by rfl, ?_⟩) hHeld ?_ ?_
      rotate_left
      · rintro w' ⟨s0, s1⟩
        go_simp
        with_reducible rfl
      rotate_left
      · simp only [Act.put, List.setIfInBounds_toArray, List.set_cons_zero, List.set_cons_succ, i64_w, i32_w]
        rfl
      refine pure_ (i := 6) (N := some 63) (v := ?_) (a' := ?_) #[true, true, true, true, true, true, true, false, true, true, true, false, false, false] rfl rfl (by kernel_rfl) (fun _ _ _ h => h) (Or.inl ⟨by rfl, ?_⟩) ?_ ?_
      rotate_left
      · intro w'
        go_simp
        with_reducible rfl
      rotate_left
      · simp only [Act.put, List.setIfInBounds_toArray, List.set_cons_zero, List.set_cons_succ, i64_w, i32_w]
        rfl
      refine take_ (i := 7) (N := some 64) (v := ?_) (a' := ?_) #[true, true, true, true, true, true, true, true, true, true, true, false, false, false] rfl rfl (by kernel_rfl) (fun _ _ _ h => h) (Or.inl ⟨by rfl, ?_⟩) hHeld ?_ ?_
      rotate_left
      · rintro w' ⟨s0, s1⟩
        go_simp
        with_reducible rfl
      rotate_left
      · simp only [Act.put, List.setIfInBounds_toArray, List.set_cons_zero, List.set_cons_succ, i64_w, i32_w]
        rfl
      refine pure_ (i := 11) (N := some 68) (v := ?_) (a' := ?_) #[true, true, true, true, true, true, true, true, true, true, true, true, false, false] rfl rfl (by kernel_rfl) (fun _ _ _ h => h) (Or.inl ⟨by rfl, ?_⟩) ?_ ?_
      rotate_left
      · intro w'
        go_simp
        with_reducible rfl
      rotate_left
      · simp only [Act.put, List.setIfInBounds_toArray, List.set_cons_zero, List.set_cons_succ, i64_w, i32_w]
        rfl
      refine pure_ (i := 12) (N := some 69) (v := ?_) (a' := ?_) #[true, true, true, true, true, true, true, true, true, true, true, true, true, false] rfl rfl (by kernel_rfl) (fun _ _ _ h => h) (Or.inl ⟨by rfl, ?_⟩) ?_ ?_
      rotate_left
      · intro w'
        go_simp
        with_reducible rfl
      rotate_left
      · simp only [Act.put, List.setIfInBounds_toArray, List.set_cons_zero, List.set_cons_succ, i64_w, i32_w]
        rfl
      refine last_ (i := 13) (N := none) #[true, true, true, true, true, true, true, true, true, true, true, true, true, true] rfl rfl (by kernel_rfl) (by decide) (fun K hK => ?_)
      refine st_storeRowInt 0 rfl rfl rfl (off := I) rfl HO rfl rfl hlh (by kernel_rfl) ?_
      clear HO
      intro ws HO
      simp only [List.set_cons_zero, List.set_cons_succ] at HO
      refine hK.out _ _ ?_
      clear hK K
      refine done_ (by kernel_rfl) ?_
      rw [HF4.out, HF5.out, F8.out] at HO
      go_wp2_with (refine li_storeRowBool 3 rfl rfl rfl (off := i * 4 + 1 + 1) rfl HO rfl rfl hlf (by kernel_rfl) ?_; clear HO; intro ws2 HO; simp only [List.set_cons_zero, List.set_cons_succ] at HO)
      rw [HSET.out] at HO
      go_ret
      have HF := Own.rotted (A := (g, CellsP 62 [.int .i64 (D.size : Int), .slice (some ⟨gl, 0, none⟩) D.lasts.length cl, .slice (some ⟨gw, 0, none⟩) wl.length cw, .bool D.off]) :: (gl, RowP 65 3 cl (D.lasts.flatMap Dk.Sec.cells)) :: [(gw, RowP 67 4 cw (wl.flatMap Dk.wcells))]) (A' := (g, CellsP 62 [.int .i64 (D.size : Int), .slice (some ⟨gl, 0, none⟩) D.lasts.length cl, .slice (some ⟨gw, 0, none⟩) wl.length cw, .bool D.off]) :: (gl, RowP 65 3 cl (D.lasts.flatMap Dk.Sec.cells)) :: [(gw, RowP 67 4 cw ((wl.set i ((n, ⟨some (gs, cs, Dk.flipB bs bit), true, false⟩) : Nat × Dk.Sec)).flatMap Dk.wcells))]) (D := D) (L := L) (t := true) (t' := false) hn HBLK.out (by simpa using HOO.out) HJ.out rfl HO
      refine ⟨rfl, _, ⟨gl, cl, .slice (some ⟨gw, 0, none⟩) wl.length cw, [(gw, RowP 67 4 cw ((wl.set i ((n, ⟨some (gs, cs, Dk.flipB bs bit), true, false⟩) : Nat × Dk.Sec)).flatMap Dk.wcells))], by rw [HD'.out]; exact .row (wl.set i ((n, ⟨some (gs, cs, Dk.flipB bs bit), true, false⟩) : Nat × Dk.Sec)) gw cw (by rw [List.length_set]) (by rw [List.length_set]; exact HPOS.out), rfl⟩, ?_⟩
      have e : Dk.putS D n ⟨some (gs, cs, Dk.flipB bs bit), true, false⟩ = { D with waits := (wl.set i ((n, ⟨some (gs, cs, Dk.flipB bs bit), true, false⟩) : Nat × Dk.Sec)) } := HD'.out
      rw [e] at HF
      rw [HD'.out]
      simpa [Dk.hd] using HF
    · have hbg2 := hbg.symm
      have hof2 := hof.symm
      clear hbg hof
      subst hbg2 hof2
      have hD' : Dk.rotted D n gs cs bit bs = { D with lasts := D.lasts.set n ⟨some (gs, cs, Dk.flipB bs bit), true, false⟩ } := by unfold Dk.rotted Dk.putS; rw [hl]
      have hs : D.lasts[n]? = some ⟨some (gs, cs, bs), false, false⟩ := by
        have := HTS.out
        unfold Dk.toldS at this
        rw [hl] at this
        simp only [] at this
        rw [List.getD_eq_getElem?_getD, List.getElem?_eq_getElem hn] at this
        rw [List.getElem?_eq_getElem hn]; simpa using this
      have hget : (D.lasts.flatMap Dk.Sec.cells)[n * 3]? = some (.slice (some ⟨gs, 0, none⟩) D.size cs) := by
        have := flat_get Dk.sec_len D.lasts n _ 0 hs (by decide)
        rw [Nat.add_zero] at this
        rw [this, ← HV.out]; rfl
      have hset : (D.lasts.flatMap Dk.Sec.cells).set (n * 3 + 1) (.bool true) = (D.lasts.set n ⟨some (gs, cs, Dk.flipB bs bit), true, false⟩).flatMap Dk.Sec.cells :=
        flat_set1 Dk.sec_len D.lasts n 1 _ _ _ hs (by decide) (by unfold Dk.Sec.cells; rw [HV.out, HV2.out]; rfl)
      have hlf : n * 3 + 1 < (D.lasts.flatMap Dk.Sec.cells).length := by rw [flat_len Dk.sec_len]; omega
      have HO := Own.frontApp (A := (g, CellsP 62 [.int .i64 (D.size : Int), .slice (some ⟨gl, 0, none⟩) D.lasts.length cl, .slice (some ⟨gw, 0, none⟩) wl.length cw, .bool D.off]) :: (gl, RowP 65 3 cl (D.lasts.flatMap Dk.Sec.cells)) :: [(gw, RowP 67 4 cw (wl.flatMap Dk.wcells))]) (X := Dk.pool D ++ L) (by simpa using HOO.out) HJ.out
      simp only [List.cons_append, List.nil_append] at HO
      have HD' := Lib.hid hD'
      have HSET := Lib.hid hset
      have HWW := Lib.hid hW0
      clear hs hset hD' hl hW0 hwl
      refine start_ (n := 14) (S := fun w' => w'.cell? ⟨gl, n * 3, none⟩ = some (.slice (some ⟨gs, 0, none⟩) D.size cs) ∧ w'.cell? ⟨gs, I, none⟩ = some (.int .u8 x)) (ds := [13]) #[false, false, false, false, false, false, false, false, false, false, false, false, false, false] (by kernel_rfl) rfl rfl ⟨(HO.drew.rowCell 2 rfl (n * 3) hget), (HO.drew.rowCell 0 rfl I f1)⟩ (fun hHeld => ?_)
      replace HO := HO.drew
      refine pure_ (i := 0) (N := some 57) (v := ?_) (a' := ?_) #[true, false, false, false, false, false, false, false, false, false, false, false, false, false] rfl rfl (by kernel_rfl) (fun _ _ _ h => h) (Or.inl ⟨by rfl, ?_⟩) ?_ ?_
      rotate_left
      · intro w'
        go_simp
        with_reducible rfl
      rotate_left
      · simp only [Act.put, List.setIfInBounds_toArray, List.set_cons_zero, List.set_cons_succ, i64_w, i32_w]
        rfl
      refine pure_ (i := 1) (N := some 58) (v := ?_) (a' := ?_) #[true, true, false, false, false, false, false, false, false, false, false, false, false, false] rfl rfl (by kernel_rfl) (fun _ _ _ h => h) (Or.inl ⟨by rfl, ?_⟩) ?_ ?_
      rotate_left
      · intro w'
        go_simp
        with_reducible rfl
      rotate_left
      · simp only [Act.put, List.setIfInBounds_toArray, List.set_cons_zero, List.set_cons_succ, i64_w, i32_w]
        rfl
      refine pure_ (i := 2) (N := some 59) (v := ?_) (a' := ?_) #[true, true, true, false, false, false, false, false, false, false, false, false, false, false] rfl rfl (by kernel_rfl) (fun _ _ _ h => h) (Or.inl ⟨by rfl, ?_⟩) ?_ ?_
      rotate_left
      · intro w'
        go_simp
        with_reducible rfl
      rotate_left
      · simp only [Act.put, List.setIfInBounds_toArray, List.set_cons_zero, List.set_cons_succ, i64_w, i32_w]
        rfl
      refine pure_ (i := 4) (N := some 61) (v := ?_) (a' := ?_) #[true, true, true, false, true, false, false, false, false, false, false, false, false, false] rfl rfl (by kernel_rfl) (fun _ _ _ h => h) (Or.inl ⟨by rfl, ?_⟩) ?_ ?_
      rotate_left
      · intro w'
        go_simp
        with_reducible rfl
      rotate_left
      · simp only [Act.put, List.setIfInBounds_toArray, List.set_cons_zero, List.set_cons_succ, i64_w, i32_w]
        rfl
      refine pure_ (i := 5) (N := some 62) (v := ?_) (a' := ?_) #[true, true, true, false, true, true, false, false, false, false, false, false, false, false] rfl rfl (by kernel_rfl) (fun _ _ _ h => h) (Or.inl ⟨by rfl, ?_⟩) ?_ ?_
      rotate_left
      · intro w'
        go_simp
        with_reducible rfl
      rotate_left
      · simp only [Act.put, List.setIfInBounds_toArray, List.set_cons_zero, List.set_cons_succ, i64_w, i32_w]
        rfl
      refine pure_ (i := 8) (N := some 65) (v := ?_) (a' := ?_) #[true, true, true, false, true, true, false, false, true, false, false, false, false, false] rfl rfl (by kernel_rfl) (fun _ _ _ h => h) (Or.inl ⟨by rfl, ?_⟩) ?_ ?_
      rotate_left
      · intro w'
        go_simp
        with_reducible rfl
      rotate_left
      · simp only [Act.put, List.setIfInBounds_toArray, List.set_cons_zero, List.set_cons_succ, i64_w, i32_w]
        rfl
      refine pure_ (i := 9) (N := some 66) (v := ?_) (a' := ?_) #[true, true, true, false, true, true, false, false, true, true, false, false, false, false] rfl rfl (by kernel_rfl) (fun _ _ _ h => h) (Or.inl ⟨by rfl, ?_⟩) ?_ ?_
      rotate_left
      · intro w'
        go_simp
        with_reducible rfl
      rotate_left
      · simp only [Act.put, List.setIfInBounds_toArray, List.set_cons_zero, List.set_cons_succ, i64_w, i32_w]
        rfl
      refine pure_ (i := 10) (N := some 67) (v := ?_) (a' := ?_) #[true, true, true, false, true, true, false, false, true, true, true, false, false, false] rfl rfl (by kernel_rfl) (fun _ _ _ h => h) (Or.inl ⟨by rfl, ?_⟩) ?_ ?_
      rotate_left
      · intro w'
        go_simp
        with_reducible rfl
      rotate_left
      · simp only [Act.put, List.setIfInBounds_toArray, List.set_cons_zero, List.set_cons_succ, i64_w, i32_w]
        rfl
      refine take_ (i := 3) (N := some 60) (v := ?_) (a' := ?_) #[true, true, true, true, true, true, false, false, true, true, true, false, false, false] rfl rfl (by kernel_rfl) (fun _ _ _ h => h) (Or.inl ⟨by rfl, ?_⟩) hHeld ?_ ?_
      rotate_left
      · rintro w' ⟨s0, s1⟩
        go_simp
        with_reducible rfl
      rotate_left
      · simp only [Act.put, List.setIfInBounds_toArray, List.set_cons_zero, List.set_cons_succ, i64_w, i32_w]
        rfl
      refine pure_ (i := 6) (N := some 63) (v := ?_) (a' := ?_) #[true, true, true, true, true, true, true, false, true, true, true, false, false, false] rfl rfl (by kernel_rfl) (fun _ _ _ h => h) (Or.inl ⟨by rfl, ?_⟩) ?_ ?_
      rotate_left
      · intro w'
        go_simp
        with_reducible rfl
      rotate_left
      · simp only [Act.put, List.setIfInBounds_toArray, List.set_cons_zero, List.set_cons_succ, i64_w, i32_w]
        rfl
      refine take_ (i := 7) (N := some 64) (v := ?_) (a' := ?_) #[true, true, true, true, true, true, true, true, true, true, true, false, false, false] rfl rfl (by kernel_rfl) (fun _ _ _ h => h) (Or.inl ⟨by rfl, ?_⟩) hHeld ?_ ?_
      rotate_left
      · rintro w' ⟨s0, s1⟩
        go_simp
        with_reducible rfl
      rotate_left
      · simp only [Act.put, List.setIfInBounds_toArray, List.set_cons_zero, List.set_cons_succ, i64_w, i32_w]
        rfl
      refine pure_ (i := 11) (N := some 68) (v := ?_) (a' := ?_) #[true, true, true, true, true, true, true, true, true, true, true, true, false, false] rfl rfl (by kernel_rfl) (fun _ _ _ h => h) (Or.inl ⟨by rfl, ?_⟩) ?_ ?_
      rotate_left
      · intro w'
        go_simp
        with_reducible rfl
      rotate_left
      · simp only [Act.put, List.setIfInBounds_toArray, List.set_cons_zero, List.set_cons_succ, i64_w, i32_w]
        rfl
      refine pure_ (i := 12) (N := some 69) (v := ?_) (a' := ?_) #[true, true, true, true, true, true, true, true, true, true, true, true, true, false] rfl rfl (by kernel_rfl) (fun _ _ _ h => h) (Or.inl ⟨by rfl, ?_⟩) ?_ ?_
      rotate_left
      · intro w'
        go_simp
        with_reducible rfl
      rotate_left
      · simp only [Act.put, List.setIfInBounds_toArray, List.set_cons_zero, List.set_cons_succ, i64_w, i32_w]
        rfl
      refine last_ (i := 13) (N := none) #[true, true, true, true, true, true, true, true, true, true, true, true, true, true] rfl rfl (by kernel_rfl) (by decide) (fun K hK => ?_)
      refine st_storeRowInt 0 rfl rfl rfl (off := I) rfl HO rfl rfl hlh (by kernel_rfl) ?_
      clear HO
      intro ws HO
      simp only [List.set_cons_zero, List.set_cons_succ] at HO
      refine hK.out _ _ ?_
      clear hK K
      refine done_ (by kernel_rfl) ?_
      rw [HF4.out, HF5.out, F8.out] at HO
      go_wp2_with (refine li_storeRowBool 2 rfl rfl rfl (off := n * 3 + 1) rfl HO rfl rfl hlf (by kernel_rfl) ?_; clear HO; intro ws2 HO; simp only [List.set_cons_zero, List.set_cons_succ] at HO)
      rw [HSET.out] at HO
      go_ret
      have HF := Own.rotted (A := (g, CellsP 62 [.int .i64 (D.size : Int), .slice (some ⟨gl, 0, none⟩) D.lasts.length cl, .slice (some ⟨gw, 0, none⟩) wl.length cw, .bool D.off]) :: (gl, RowP 65 3 cl (D.lasts.flatMap Dk.Sec.cells)) :: [(gw, RowP 67 4 cw (wl.flatMap Dk.wcells))]) (A' := (g, CellsP 62 [.int .i64 (D.size : Int), .slice (some ⟨gl, 0, none⟩) D.lasts.length cl, .slice (some ⟨gw, 0, none⟩) wl.length cw, .bool D.off]) :: (gl, RowP 65 3 cl ((D.lasts.set n ⟨some (gs, cs, Dk.flipB bs bit), true, false⟩).flatMap Dk.Sec.cells)) :: [(gw, RowP 67 4 cw (wl.flatMap Dk.wcells))]) (D := D) (L := L) (t := true) (t' := false) hn HBLK.out (by simpa using HOO.out) HJ.out rfl HO
      refine ⟨rfl, _, ⟨gl, cl, .slice (some ⟨gw, 0, none⟩) wl.length cw, [(gw, RowP 67 4 cw (wl.flatMap Dk.wcells))], by rw [HD'.out]; exact HWW.out, rfl⟩, ?_⟩
      have e : Dk.putS D n ⟨some (gs, cs, Dk.flipB bs bit), true, false⟩ = { D with lasts := D.lasts.set n ⟨some (gs, cs, Dk.flipB bs bit), true, false⟩ } := HD'.out
      rw [e] at HF
      rw [HD'.out]
      simpa [Dk.hd] using HF
end Go.Proofs.Ytbgjfdeolckljaa

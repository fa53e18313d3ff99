/- All that was written lasts: a disk flushed. -/
import Derived.Test.YtbgjfdeolckljaaDe
namespace Go.Proofs.Ytbgjfdeolckljaa
set_option linter.unusedVariables false
set_option linter.unusedSimpArgs false
set_option linter.unnecessarySimpa false
open Go.RowKit Go.Proofs.YtbgjfdeolckljaaW.PrintLast
namespace Dk
/-- The writes done, from the oldest one on. -/
def fl (ls : List Sec) : List (Nat × Sec) → List Sec
  | [] => ls
  | x :: l => fl (ls.set x.1 x.2) l
theorem fl_len : ∀ (l : List (Nat × Sec)) (ls : List Sec), (fl ls l).length = ls.length
  | [], _ => rfl
  | x :: l, ls => by simp only [fl]; rw [fl_len l]; simp
theorem fl_append : ∀ (l m : List (Nat × Sec)) (ls : List Sec), fl ls (l ++ m) = fl (fl ls l) m
  | [], _, _ => rfl
  | x :: l, m, ls => by simp only [List.cons_append, fl]; exact fl_append l m _
def secId (s : Sec) : List Nat := s.ents.map (·.1)
theorem ids_flat (ls : List Sec) : (ls.flatMap Sec.ents).map (·.1) = ls.flatMap secId := by
  rw [List.map_flatMap]; rfl
/-- Putting one of the waiting ones in its place keeps all blocks apart. -/
theorem put_nodup {ls : List Sec} {x : Sec} {rest : List Nat} {n : Nat} (h : (ls.flatMap secId ++ (secId x ++ rest)).Nodup) : ((ls.set n x).flatMap secId ++ rest).Nodup := by
  induction ls generalizing n rest with
  | nil =>
    simp only [List.set_nil, List.flatMap_nil, List.nil_append] at h ⊢
    exact (List.nodup_append.1 h).2.1
  | cons y ls ih =>
    cases n with
    | zero =>
      rw [List.set_cons_zero, List.flatMap_cons, List.append_assoc]
      rw [List.flatMap_cons, List.append_assoc] at h
      have h2 := (List.nodup_append.1 h).2.1
      have hp : (ls.flatMap secId ++ (secId x ++ rest)).Perm (secId x ++ (ls.flatMap secId ++ rest)) := by
        rw [← List.append_assoc, ← List.append_assoc]
        exact List.perm_append_comm.append_right rest
      exact (hp.nodup_iff).1 h2
    | succ n =>
      rw [List.set_cons_succ, List.flatMap_cons, List.append_assoc]
      rw [List.flatMap_cons, List.append_assoc, List.nodup_append] at h
      obtain ⟨h1, h2, h3⟩ := h
      rw [List.nodup_append]
      refine ⟨h1, ih h2, fun a ha b hb => h3 a ha b ?_⟩
      rcases List.mem_append.1 hb with hb | hb
      · obtain ⟨s, hs, hbs⟩ := List.mem_flatMap.1 hb
        rcases List.mem_or_eq_of_mem_set hs with hs | rfl
        · exact List.mem_append_left _ (List.mem_flatMap.2 ⟨s, hs, hbs⟩)
        · exact List.mem_append_right _ (List.mem_append_left _ hbs)
      · exact List.mem_append_right _ (List.mem_append_right _ hb)
theorem fl_nodup : ∀ (l : List (Nat × Sec)) (ls : List Sec) (rest : List Nat), (ls.flatMap secId ++ ((l.flatMap fun x => secId x.2) ++ rest)).Nodup → ((fl ls l).flatMap secId ++ rest).Nodup
  | [], ls, rest, h => by simpa [fl] using h
  | x :: l, ls, rest, h => by
    simp only [fl]
    apply fl_nodup l
    rw [List.flatMap_cons, List.append_assoc] at h
    exact put_nodup h
theorem fl_mem : ∀ (l : List (Nat × Sec)) (ls : List Sec) (s : Sec), s ∈ fl ls l → s ∈ ls ∨ ∃ n, (n, s) ∈ l
  | [], ls, s, h => .inl h
  | x :: l, ls, s, h => by
    simp only [fl] at h
    rcases fl_mem l _ s h with h | ⟨n, h⟩
    · rcases List.mem_or_eq_of_mem_set h with h | rfl
      · exact .inl h
      · exact .inr ⟨x.1, by simp⟩
    · exact .inr ⟨n, by simp [h]⟩
def flushed (D : Disk) : Disk := { D with lasts := fl D.lasts D.waits, waits := [] }
theorem flushed_ok {D : Disk} (h : Ok D) : Ok (flushed D) := by
  have hl : (flushed D).lasts.length = D.lasts.length := fl_len _ _
  refine ⟨by rw [hl]; exact h.n1, by rw [hl]; exact h.n2, h.s1, h.s2, by simp [flushed], by simp [flushed], fun s g c b hs hb => ?_⟩
  rcases hs with hs | ⟨n, hs⟩
  · rcases fl_mem _ _ s hs with hs | ⟨n, hs⟩
    · exact h.bs s g c b (.inl hs) hb
    · exact h.bs s g c b (.inr ⟨n, hs⟩) hb
  · simp [flushed] at hs
theorem ents_flushed {D : Disk} : ∀ x ∈ (fl D.lasts D.waits).flatMap Sec.ents, x ∈ pool D := by
  intro x hx
  obtain ⟨s, hs, hxs⟩ := List.mem_flatMap.1 hx
  rcases fl_mem _ _ s hs with hs | ⟨n, hs⟩
  · exact List.mem_append_left _ (List.mem_flatMap.2 ⟨s, hs, hxs⟩)
  · exact List.mem_append_right _ (List.mem_flatMap.2 ⟨(n, s), hs, hxs⟩)
end Dk
theorem Dk.v_slice (s : Dk.Sec) : ∃ q n c, s.v = .slice q n c := by
  unfold Dk.Sec.v
  cases s.blk with
  | none => exact ⟨_, _, _, rfl⟩
  | some p => exact ⟨_, _, _, rfl⟩
theorem add_off (g o j : Nat) : (⟨g, o, none⟩ : Addr).add j = ⟨g, o + j, none⟩ := by
  unfold Addr.add
  split
  · subst_vars; rfl
  · simp
/-- The blocks of a disk whose writes were done. -/
theorem Own.flushed {w0 w : World} {L A B : List Ent} {D : Dk.Disk} (h : Own w0 w (A ++ (B ++ (Dk.pool D ++ L)))) : Own w0 w (A ++ ((Dk.fl D.lasts D.waits).flatMap Dk.Sec.ents ++ L)) := by
  have h1 : Own w0 w (A ++ (Dk.pool D ++ L)) := h.sub (List.Sublist.append_left (List.sublist_append_right _ _) _)
  refine h1.pick ?_ ?_
  · have hn := h1.nodup
    have e : ((Dk.pool D).map (·.1)) = D.lasts.flatMap Dk.secId ++ (D.waits.flatMap fun x => Dk.secId x.2) := by
      unfold Dk.pool
      rw [List.map_append, Dk.ids_flat, List.map_flatMap]; rfl
    rw [List.map_append, List.map_append, e] at hn
    rw [List.map_append, List.map_append, Dk.ids_flat]
    have hp : ∀ (a b c : List Nat), (a ++ (b ++ c)).Perm (b ++ (c ++ a)) := fun a b c => by
      rw [← List.append_assoc b c a]; exact List.perm_append_comm
    have h2 := ((hp _ _ _).nodup_iff).1 hn
    rw [List.append_assoc] at h2
    exact ((hp _ _ _).nodup_iff).2 (Dk.fl_nodup D.waits D.lasts _ h2)
  · intro x hx
    rcases List.mem_append.1 hx with hx | hx
    · exact List.mem_append_left _ hx
    · rcases List.mem_append.1 hx with hx | hx
      · exact List.mem_append_right _ (List.mem_append_left _ (Dk.ents_flushed x hx))
      · exact List.mem_append_right _ (List.mem_append_right _ hx)
theorem Flush_bad {w0 w : World} {L E : List Ent} {g : Nat} {D : Dk.Disk} (hD : Dk.DkP g D E) (HO : Own w0 w (E ++ L)) {e : Int} (he : Dk.mayE D 0 = e) (h0 : e ≠ 0) :
    Calls Try.prog 11 #[.pointer (some ⟨g, 0, none⟩)] w fun x w' => x = .returned (.int .i64 e) ∧ w = w' := by
  have hne : (e != 0) = true := by simp [h0]
  have HM := Lib.hid he
  clear he
  go_enter Try.func11, Try.ntmps11
  go_wp2_with (go_at_call 23; (refine (may_any 0 hD HO).mono ?_); rw [HM.out]; rintro e w2 ⟨rfl, rfl⟩)
  go_ret
  exact ⟨rfl, rfl⟩
set_option maxRecDepth 20000 in
set_option maxHeartbeats 8000000 in
theorem Flush_ok {w0 w : World} {L E : List Ent} {g : Nat} {D : Dk.Disk} (hK : Dk.Ok D) (hD : Dk.DkP g D E) (HO : Own w0 w (E ++ L)) (hoff : D.off = false) :
    Calls Try.prog 11 #[.pointer (some ⟨g, 0, none⟩)] w fun x w' => x = .returned (.int .i64 0) ∧ ∃ E', Dk.DkP g (Dk.flushed D) E' ∧ Own w0 w' (E' ++ L) := by
  have hmay : Dk.mayE D 0 = 0 := by
    have := hK.n1
    unfold Dk.mayE
    rw [if_neg (by omega), hoff]; rfl
  have HM := Lib.hid hmay
  have hn2 := hK.n2
  have hfew := hK.few
  have HWN := Lib.hid hK.wn
  obtain ⟨gl, cl, wv, W, hW, hE, HO1⟩ := Dk.open_ hD HO
  clear hmay hE
  obtain ⟨N, hN⟩ : ∃ N, D.lasts.length = N := ⟨_, rfl⟩
  obtain ⟨wl, hwl⟩ : ∃ l, D.waits = l := ⟨_, rfl⟩
  have HWL := Lib.hid hwl
  have HN := Lib.hid hN
  rw [hN] at HO1 hn2
  rw [hoff] at HO1
  rw [hwl] at hW hfew HWN
  have key : ∀ w', Own w0 w' ((g, CellsP 62 [.int .i64 (D.size : Int), .slice (some ⟨gl, 0, none⟩) N cl, .slice none 0 0, .bool false]) :: (gl, RowP 65 3 cl ((Dk.fl D.lasts wl).flatMap Dk.Sec.cells)) :: (W ++ Dk.pool D ++ L)) → ∃ E', Dk.DkP g (Dk.flushed D) E' ∧ Own w0 w' (E' ++ L) := fun w' H => by
    have H2 := Own.flushed (A := [_, _]) (B := W) (D := D) (L := L) (by simpa using H)
    refine ⟨_, ⟨gl, cl, .slice none 0 0, [], .nil rfl, rfl⟩, ?_⟩
    rw [HWL.out] at H2
    simpa [Dk.hd, Dk.flushed, Dk.pool, Dk.fl_len, hN, hoff, HWL.out] using H2
  have KEY := Lib.hid key
  clear key hwl hN hoff
  cases hW with
  | nil hwv =>
    subst hwv
    go_enter Try.func11, Try.ntmps11
    go_wp2_with (first | (go_at_call 23; (refine (may_any 0 hD HO).mono ?_); rw [HM.out]; rintro e w2 ⟨rfl, rfl⟩) | (refine li_load 0 60 rfl rfl rfl HO1 rfl rfl (by kernel_rfl) ?_))
    go_loopg [16] 0 (fun k x wr => x = .int .i64 0 ∧ k = 0 ∧ wr = w)
    case atStart => exact ⟨by rfl, by omega, rfl⟩
    case round =>
      obtain ⟨rfl, hk, rfl⟩ := hrel
      go_wp2_with (refine li_storeSlice 0 60 rfl rfl rfl rfl HO1 rfl rfl (by simp) (by kernel_rfl) ?_; clear HO1; intro ws HO1; simp only [List.set_cons_zero, List.set_cons_succ] at HO1)
      go_ret
      exact ⟨rfl, KEY.out _ HO1⟩
  | row _ gw cw hwv hpos =>
    subst hwv
    obtain ⟨M, hM⟩ : ∃ M, wl.length = M := ⟨_, rfl⟩
    have HMM := Lib.hid hM
    rw [hM] at HO1 hfew
    clear hM hpos
    go_enter Try.func11, Try.ntmps11
    go_wp2_with (first | (go_at_call 23; (refine (may_any 0 hD HO).mono ?_); rw [HM.out]; rintro e w2 ⟨rfl, rfl⟩) | (refine li_load 0 60 rfl rfl rfl HO1 rfl rfl (by kernel_rfl) ?_))
    go_loopg [16] M (fun k x wr => ∃ i : Nat, x = .int .i64 (i : Int) ∧ i ≤ M ∧ k = M - i ∧ Own w0 wr ((g, CellsP 62 [.int .i64 (D.size : Int), .slice (some ⟨gl, 0, none⟩) N cl, .slice (some ⟨gw, 0, none⟩) M cw, .bool false]) :: (gl, RowP 65 3 cl ((Dk.fl D.lasts (wl.take i)).flatMap Dk.Sec.cells)) :: ([(gw, RowP 67 4 cw (wl.flatMap Dk.wcells))] ++ Dk.pool D ++ L)))
    case atStart => exact ⟨0, by rfl, by omega, by omega, HO1⟩
    case round =>
      clear HO1 HO hD
      obtain ⟨i, rfl, i1, hk, HO⟩ := hrel
      rcases Nat.lt_or_ge i M with hi | hi
      · have hd : decide ((i : Int) < (M : Int)) = true := decide_eq_true (by omega)
        have hw1 : IntKind.i64.wrap ((i : Int) + 1) = ((i + 1 : Nat) : Int) := by rw [IntWalk.i64_in _ (by omega)]; rfl
        have hb0 : (0 : Int) ≤ (i : Int) := by omega
        have hb1 : (i : Int) < (M : Int) := by omega
        obtain ⟨x, hx⟩ : ∃ x, wl[i]? = some x := ⟨_, List.getElem?_eq_getElem (by rw [HMM.out]; exact hi)⟩
        have hxn := HWN.out x (List.mem_of_getElem? hx)
        rw [HN.out] at hxn
        have hst : Dk.fl D.lasts (wl.take (i + 1)) = (Dk.fl D.lasts (wl.take i)).set x.1 x.2 := by
          rw [List.take_add_one, hx, Dk.fl_append]; rfl
        have hfl : (Dk.fl D.lasts (wl.take i)).length = N := by rw [Dk.fl_len, HN.out]
        have hcell : ∀ (j : Nat) v, (Dk.wcells x)[j]? = some v → wr.cell? ⟨gw, i * 4 + j, none⟩ = some v := fun j v hv => by
          have hj : j < 4 := by have := (List.getElem?_eq_some_iff.1 hv).1; simpa [Dk.wcells, Dk.Sec.cells] using this
          exact HO.rowCell 2 rfl (i * 4 + j) (by rw [flat_get Dk.wr_len _ _ _ _ hx hj]; exact hv)
        have HC := Lib.hid hcell
        have HST := Lib.hid hst
        have HFL := Lib.hid hfl
        obtain ⟨F, hF⟩ : ∃ F, Dk.fl D.lasts (wl.take i) = F := ⟨_, rfl⟩
        rw [hF] at HO HST HFL
        obtain ⟨nx, sx⟩ := x
        obtain ⟨vq, vn, vc, hv⟩ := Dk.v_slice sx
        have HV := Lib.hid hv
        obtain ⟨t1, ht1⟩ : ∃ t1, sx.turned = t1 := ⟨_, rfl⟩
        obtain ⟨t2, ht2⟩ : ∃ t2, sx.torn = t2 := ⟨_, rfl⟩
        have hwc : Dk.wcells (nx, sx) = [.int .i64 (nx : Int), .slice vq vn vc, .bool t1, .bool t2] := by unfold Dk.wcells Dk.Sec.cells; rw [hv, ht1, ht2]
        have hsc : sx.cells = [.slice vq vn vc, .bool t1, .bool t2] := by unfold Dk.Sec.cells; rw [hv, ht1, ht2]
        rw [hwc] at HC
        have hfs := flat_set Dk.sec_len F nx sx (by rw [HFL.out]; exact hxn)
        rw [hsc] at hfs
        have HFS := Lib.hid hfs
        have hlf := Lib.hid (show nx * 3 + 3 ≤ (F.flatMap Dk.Sec.cells).length by rw [flat_len Dk.sec_len, HFL.out]; omega)
        have hn0 : (0 : Int) ≤ (nx : Int) := by omega
        have hn1 : (nx : Int) < (N : Int) := by omega
        clear hv ht1 ht2 hwc hsc hfs
        clear hcell hst hfl hx hF
        go_upto_region 7 with (first | (refine li_loadAggAt 67 4 (vs := [.int .i64 (nx : Int), .slice vq vn vc, .bool t1, .bool t2]) rfl rfl rfl (fun j v hv => by rw [add_off]; exact HC.out j v hv) rfl (by kernel_rfl) (by kernel_rfl) (by kernel_rfl) ?_) | (refine li_alloc (t := 67) rfl rfl (z := .agg #[.int .i64 0, .slice none 0 0, .bool false, .bool false]) (cs := [.int .i64 0, .slice none 0 0, .bool false, .bool false]) (by kernel_rfl) rfl HO ?_; clear HO; intro ga wa HO) | (refine li_storeAgg 0 67 rfl rfl rfl rfl HO rfl rfl rfl rfl (by kernel_rfl) ?_; clear HO; intro ws HO; simp only [List.set_cons_zero] at HO))
        refine start_ (n := 10) (S := fun w' => w'.cell? ⟨g, 1, none⟩ = some (.slice (some ⟨gl, 0, none⟩) N cl) ∧ w'.cell? ⟨ga, 0, none⟩ = some (.int .i64 (nx : Int)) ∧ w'.cell? ⟨ga, 1, none⟩ = some (.slice vq vn vc) ∧ w'.cell? ⟨ga, 2, none⟩ = some (.bool t1) ∧ w'.cell? ⟨ga, 3, none⟩ = some (.bool t2)) (ds := [9]) #[false, false, false, false, false, false, false, false, false, false] (by kernel_rfl) rfl rfl ⟨(by first | exact HO.drew.cell 0 rfl _ rfl | exact HO.drew.cell 1 rfl _ rfl | exact HO.drew.cell 2 rfl _ rfl), (by first | exact HO.drew.cell 0 rfl _ rfl | exact HO.drew.cell 1 rfl _ rfl | exact HO.drew.cell 2 rfl _ rfl), (by first | exact HO.drew.cell 0 rfl _ rfl | exact HO.drew.cell 1 rfl _ rfl | exact HO.drew.cell 2 rfl _ rfl), (by first | exact HO.drew.cell 0 rfl _ rfl | exact HO.drew.cell 1 rfl _ rfl | exact HO.drew.cell 2 rfl _ rfl), (by first | exact HO.drew.cell 0 rfl _ rfl | exact HO.drew.cell 1 rfl _ rfl | exact HO.drew.cell 2 rfl _ rfl)⟩ (fun hHeld => ?_)
        replace HO := HO.drew
        refine pure_ (i := 0) (N := some 20) (v := ?_) (a' := ?_) #[true, false, false, false, false, false, false, false, false, false] rfl rfl (by kernel_rfl) (fun _ _ _ h => h) (Or.inl ⟨by rfl, ?_⟩) ?_ ?_
        rotate_left
        · intro w'
          go_simp
          with_reducible rfl
        rotate_left
        · simp only [Act.put, List.setIfInBounds_toArray, List.set_cons_zero, List.set_cons_succ, i64_w, i32_w]
          rfl
        refine pure_ (i := 1) (N := some 21) (v := ?_) (a' := ?_) #[true, true, false, false, false, false, false, false, false, false] rfl rfl (by kernel_rfl) (fun _ _ _ h => h) (Or.inl ⟨by rfl, ?_⟩) ?_ ?_
        rotate_left
        · intro w'
          go_simp
          with_reducible rfl
        rotate_left
        · simp only [Act.put, List.setIfInBounds_toArray, List.set_cons_zero, List.set_cons_succ, i64_w, i32_w]
          rfl
        refine pure_ (i := 2) (N := some 22) (v := ?_) (a' := ?_) #[true, true, true, false, false, false, false, false, false, false] rfl rfl (by kernel_rfl) (fun _ _ _ h => h) (Or.inl ⟨by rfl, ?_⟩) ?_ ?_
        rotate_left
        · intro w'
          go_simp
          with_reducible rfl
        rotate_left
        · simp only [Act.put, List.setIfInBounds_toArray, List.set_cons_zero, List.set_cons_succ, i64_w, i32_w]
          rfl
        refine pure_ (i := 4) (N := some 24) (v := ?_) (a' := ?_) #[true, true, true, false, true, false, false, false, false, false] rfl rfl (by kernel_rfl) (fun _ _ _ h => h) (Or.inl ⟨by rfl, ?_⟩) ?_ ?_
        rotate_left
        · intro w'
          go_simp
          with_reducible rfl
        rotate_left
        · simp only [Act.put, List.setIfInBounds_toArray, List.set_cons_zero, List.set_cons_succ, i64_w, i32_w]
          rfl
        refine pure_ (i := 6) (N := some 26) (v := ?_) (a' := ?_) #[true, true, true, false, true, false, true, false, false, false] rfl rfl (by kernel_rfl) (fun _ _ _ h => h) (Or.inl ⟨by rfl, ?_⟩) ?_ ?_
        rotate_left
        · intro w'
          go_simp
          with_reducible rfl
        rotate_left
        · simp only [Act.put, List.setIfInBounds_toArray, List.set_cons_zero, List.set_cons_succ, i64_w, i32_w]
          rfl
        refine take_ (i := 3) (N := some 23) (v := ?_) (a' := ?_) #[true, true, true, true, true, false, true, false, false, false] rfl rfl (by kernel_rfl) (fun _ _ _ h => h) (Or.inl ⟨by rfl, ?_⟩) hHeld ?_ ?_
        rotate_left
        · rintro w' ⟨s0, s1, s2, s3, s4⟩
          go_simp
          with_reducible rfl
        rotate_left
        · simp only [Act.put, List.setIfInBounds_toArray, List.set_cons_zero, List.set_cons_succ, i64_w, i32_w]
          rfl
        refine take_ (i := 5) (N := some 25) (v := ?_) (a' := ?_) #[true, true, true, true, true, true, true, false, false, false] rfl rfl (by kernel_rfl) (fun _ _ _ h => h) (Or.inl ⟨by rfl, ?_⟩) hHeld ?_ ?_
        rotate_left
        · rintro w' ⟨s0, s1, s2, s3, s4⟩
          go_simp
          with_reducible rfl
        rotate_left
        · simp only [Act.put, List.setIfInBounds_toArray, List.set_cons_zero, List.set_cons_succ, i64_w, i32_w]
          rfl
        refine take_ (i := 7) (N := some 27) (v := ?_) (a' := ?_) #[true, true, true, true, true, true, true, true, false, false] rfl rfl (by kernel_rfl) (fun _ _ _ h => h) (Or.inl ⟨by rfl, ?_⟩) hHeld ?_ ?_
        rotate_left
        · rintro w' ⟨s0, s1, s2, s3, s4⟩
          go_simp
          with_reducible rfl
        rotate_left
        · simp only [Act.put, List.setIfInBounds_toArray, List.set_cons_zero, List.set_cons_succ, i64_w, i32_w]
          rfl
        refine pure_ (i := 8) (N := some 28) (v := ?_) (a' := ?_) #[true, true, true, true, true, true, true, true, true, false] rfl rfl (by kernel_rfl) (fun _ _ _ h => h) (Or.inl ⟨by rfl, ?_⟩) ?_ ?_
        rotate_left
        · intro w'
          go_simp
          with_reducible rfl
        rotate_left
        · simp only [Act.put, List.setIfInBounds_toArray, List.set_cons_zero, List.set_cons_succ, i64_w, i32_w]
          rfl
        refine last_ (i := 9) (N := none) #[true, true, true, true, true, true, true, true, true, true] rfl rfl (by kernel_rfl) (by decide) (fun K hK => ?_)
        refine st_storeRowAgg 2 (vs := [.slice vq vn vc, .bool t1, .bool t2]) rfl rfl rfl (off := nx * 3) rfl HO rfl rfl rfl hlf.out (by kernel_rfl) ?_
        clear HO
        intro ws HO
        simp only [List.set_cons_zero, List.set_cons_succ] at HO
        refine hK.out _ _ ?_
        clear hK K
        refine done_ (by kernel_rfl) ?_
        rw [HFS.out, ← HST.out] at HO
        go_wp2_with (fail)
        go_roundg (M - (i + 1))
        case measure => omega
        case rel => exact ⟨i + 1, rfl, by omega, rfl, HO.tail⟩
      · obtain rfl : i = M := by omega
        have hd : decide ((i : Int) < (i : Int)) = false := by simp
        rw [List.take_of_length_le (by rw [HMM.out]; omega)] at HO
        go_wp2_with (refine li_storeSlice 0 60 rfl rfl rfl rfl HO rfl rfl (by simp) (by kernel_rfl) ?_; clear HO; intro ws HO; simp only [List.set_cons_zero, List.set_cons_succ] at HO)
        go_ret
        exact ⟨rfl, KEY.out _ HO⟩
end Go.Proofs.Ytbgjfdeolckljaa

/- The power fails: what lasts then. -/
import Derived.Test.YtbgjfdeolckljaaDf
namespace Go.Proofs.Ytbgjfdeolckljaa
set_option linter.unusedVariables false
set_option linter.unusedSimpArgs false
set_option linter.unnecessarySimpa false
open Go.RowKit Go.Proofs.YtbgjfdeolckljaaW.PrintLast
namespace Dk
def tornS : Sec := ⟨none, false, true⟩
/-- The writes that last when the power fails, and the one that is torn. -/
def cutL (keep : List Bool) (torn : Int) : Nat → List (Nat × Sec) → List (Nat × Sec)
  | _, [] => []
  | i, x :: l => (if (i : Int) = torn then [(x.1, tornS)] else if keep.getD i false then [x] else []) ++ cutL keep torn (i + 1) l
theorem cutL_append (keep : List Bool) (torn : Int) : ∀ (l m : List (Nat × Sec)) (i : Nat), cutL keep torn i (l ++ m) = cutL keep torn i l ++ cutL keep torn (i + l.length) m
  | [], m, i => by simp [cutL]
  | x :: l, m, i => by
    simp only [List.cons_append, cutL]
    rw [cutL_append keep torn l m (i + 1), List.append_assoc]
    congr 3
    simp; omega
theorem cutL_ids (keep : List Bool) (torn : Int) : ∀ (l : List (Nat × Sec)) (i : Nat), ((cutL keep torn i l).flatMap fun x => secId x.2).Sublist (l.flatMap fun x => secId x.2)
  | [], i => by simp [cutL]
  | x :: l, i => by
    simp only [cutL, List.flatMap_append, List.flatMap_cons]
    refine List.Sublist.append ?_ (cutL_ids keep torn l (i + 1))
    split
    · simp [tornS, secId, Sec.ents]
    · split
      · simp
      · simp
theorem cutL_ents (keep : List Bool) (torn : Int) : ∀ (l : List (Nat × Sec)) (i : Nat) (y : Ent), y ∈ ((cutL keep torn i l).flatMap fun x => x.2.ents) → y ∈ l.flatMap fun x => x.2.ents
  | [], i, y, h => by simp [cutL] at h
  | x :: l, i, y, h => by
    simp only [cutL, List.flatMap_append] at h
    rw [List.flatMap_cons]
    rcases List.mem_append.1 h with h | h
    · refine List.mem_append_left _ ?_
      split at h
      · simp [tornS, Sec.ents] at h
      · split at h
        · simpa using h
        · simp at h
    · exact List.mem_append_right _ (cutL_ents keep torn l (i + 1) y h)
theorem cutL_mem (keep : List Bool) (torn : Int) : ∀ (l : List (Nat × Sec)) (i n : Nat) (s : Sec), (n, s) ∈ cutL keep torn i l → s = tornS ∨ (n, s) ∈ l
  | [], i, n, s, h => by simp [cutL] at h
  | x :: l, i, n, s, h => by
    simp only [cutL] at h
    rcases List.mem_append.1 h with h | h
    · split at h
      · simp at h; exact .inl h.2
      · split at h
        · simp at h; right; rw [← h]; simp
        · simp at h
    · rcases cutL_mem keep torn l (i + 1) n s h with h | h
      · exact .inl h
      · exact .inr (by simp [h])
def cut (D : Disk) (keep : List Bool) (torn : Int) : Disk := { D with lasts := fl D.lasts (cutL keep torn 0 D.waits), waits := [], off := true }
theorem cut_ok {D : Disk} (h : Ok D) (keep : List Bool) (torn : Int) : Ok (cut D keep torn) := by
  have hl : (cut D keep torn).lasts.length = D.lasts.length := fl_len _ _
  refine ⟨by rw [hl]; exact h.n1, by rw [hl]; exact h.n2, h.s1, h.s2, by simp [cut], by simp [cut], fun s g c b hs hb => ?_⟩
  rcases hs with hs | ⟨n, hs⟩
  · rcases fl_mem _ _ s hs with hs | ⟨n, hs⟩
    · exact h.bs s g c b (.inl hs) hb
    · rcases cutL_mem keep torn _ _ _ _ hs with rfl | hs
      · simp [tornS] at hb
      · exact h.bs s g c b (.inr ⟨n, hs⟩) hb
  · simp [cut] at hs
end Dk
/-- The blocks of a disk of whose writes some were done. -/
theorem Own.done {w0 w : World} {L A B : List Ent} {D : Dk.Disk} (l : List (Nat × Dk.Sec)) (hs : (l.flatMap fun x => Dk.secId x.2).Sublist (D.waits.flatMap fun x => Dk.secId x.2)) (he : ∀ y ∈ (l.flatMap fun x => x.2.ents), y ∈ D.waits.flatMap fun x => x.2.ents)
    (h : Own w0 w (A ++ (B ++ (Dk.pool D ++ L)))) : Own w0 w (A ++ ((Dk.fl D.lasts l).flatMap Dk.Sec.ents ++ L)) := by
  have h1 : Own w0 w (A ++ (Dk.pool D ++ L)) := h.sub (List.Sublist.append_left (List.sublist_append_right _ _) _)
  refine h1.pick ?_ ?_
  · have hn := h1.nodup
    have e : ((Dk.pool D).map (·.1)) = D.lasts.flatMap Dk.secId ++ (D.waits.flatMap fun x => Dk.secId x.2) := by
      unfold Dk.pool
      rw [List.map_append, Dk.ids_flat, List.map_flatMap]; rfl
    rw [List.map_append, List.map_append, e] at hn
    rw [List.map_append, List.map_append, Dk.ids_flat]
    have hp : ∀ (a b c : List Nat), (a ++ (b ++ c)).Perm (b ++ (c ++ a)) := fun a b c => by
      rw [← List.append_assoc b c a]; exact List.perm_append_comm
    have h2 := ((hp _ _ _).nodup_iff).1 hn
    rw [List.append_assoc] at h2
    have h3 := h2.sublist (List.Sublist.append_left (List.Sublist.append_right hs _) _)
    exact ((hp _ _ _).nodup_iff).2 (Dk.fl_nodup l D.lasts _ h3)
  · intro x hx
    rcases List.mem_append.1 hx with hx | hx
    · exact List.mem_append_left _ hx
    · rcases List.mem_append.1 hx with hx | hx
      · obtain ⟨s, hs', hxs⟩ := List.mem_flatMap.1 hx
        refine List.mem_append_right _ (List.mem_append_left _ ?_)
        rcases Dk.fl_mem _ _ s hs' with hs' | ⟨n, hs'⟩
        · exact List.mem_append_left _ (List.mem_flatMap.2 ⟨s, hs', hxs⟩)
        · exact List.mem_append_right _ (he x (List.mem_flatMap.2 ⟨(n, s), hs', hxs⟩))
      · exact List.mem_append_right _ (List.mem_append_right _ hx)
/-- A slice that reads as these bools. -/
def Kb (w : World) (v : Value) (l : List Bool) : Prop :=
  ∃ (ao : Option Addr) (cap : Nat), v = .slice ao l.length cap ∧ l.length ≤ maxLen ∧ ∀ (i : Nat) (b : Bool), l[i]? = some b → ∃ a, ao = some a ∧ w.cell? (a.add i) = some (.bool b)
theorem Kb_nil (w : World) : Kb w (.slice none 0 0) [] := ⟨none, 0, rfl, by decide, by simp⟩
set_option maxRecDepth 20000 in
theorem Cut_off {w0 w : World} {L E : List Ent} {g : Nat} {v : Value} {t : Int} {D : Dk.Disk} (hD : Dk.DkP g D E) (HO : Own w0 w (E ++ L)) (hoff : D.off = true) :
    Calls Try.prog 14 #[.pointer (some ⟨g, 0, none⟩), v, .int .i64 t] w fun x w' => x = .returned (.tuple #[]) ∧ w = w' := by
  obtain ⟨gl, cl, wv, W, hW, hE, HO1⟩ := Dk.open_ hD HO
  rw [hoff] at HO1
  clear hE HO hD
  go_enter Try.func14, Try.ntmps14
  go_wp2_with (refine li_load 0 4 rfl rfl rfl HO1 rfl rfl (by kernel_rfl) ?_)
  exact bodyPost_ret (v := .tuple #[]) (by simp [results, Try.results14, go_sem]) rfl ⟨rfl, rfl⟩
set_option maxRecDepth 20000 in
set_option maxHeartbeats 8000000 in
theorem Cut_on {w0 w : World} {L E : List Ent} {g : Nat} {v : Value} {keep : List Bool} (t : Int) {D : Dk.Disk} (hK : Dk.Ok D) (hD : Dk.DkP g D E) (HO : Own w0 w (E ++ L)) (hoff : D.off = false) (hk : Kb w0 v keep) (hkl : keep.length ≤ 1000000) :
    Calls Try.prog 14 #[.pointer (some ⟨g, 0, none⟩), v, .int .i64 t] w fun x w' => x = .returned (.tuple #[]) ∧ ∃ E', Dk.DkP g (Dk.cut D keep t) E' ∧ Own w0 w' (E' ++ L) := by
  have hn2 := hK.n2
  have hfew := hK.few
  have HWN := Lib.hid hK.wn
  obtain ⟨ao, capk, rfl, hk1, hk2⟩ := hk
  have HKB := Lib.hid hk2
  obtain ⟨gl, cl, wv, W, hW, hE, HO1⟩ := Dk.open_ hD HO
  clear hE hk2 hk1
  obtain ⟨KN, hKN⟩ : ∃ N, keep.length = N := ⟨_, rfl⟩
  obtain ⟨N, hN⟩ : ∃ N, D.lasts.length = N := ⟨_, rfl⟩
  obtain ⟨wl, hwl⟩ : ∃ l, D.waits = l := ⟨_, rfl⟩
  have HWL := Lib.hid hwl
  have HN := Lib.hid hN
  have HKN := Lib.hid hKN
  rw [hN] at HO1 hn2
  rw [hoff] at HO1
  rw [hKN] at hkl ⊢
  rw [hwl] at hW hfew HWN
  have key : ∀ w', Own w0 w' ((g, CellsP 62 [.int .i64 (D.size : Int), .slice (some ⟨gl, 0, none⟩) N cl, .slice none 0 0, .bool true]) :: (gl, RowP 65 3 cl ((Dk.fl D.lasts (Dk.cutL keep t 0 wl)).flatMap Dk.Sec.cells)) :: (W ++ Dk.pool D ++ L)) → ∃ E', Dk.DkP g (Dk.cut D keep t) E' ∧ Own w0 w' (E' ++ L) := fun w' H => by
    have H2 := Own.done (A := [_, _]) (B := W) (D := D) (L := L) (Dk.cutL keep t 0 D.waits) (Dk.cutL_ids _ _ _ _) (Dk.cutL_ents _ _ _ _) (by simpa using H)
    refine ⟨_, ⟨gl, cl, .slice none 0 0, [], .nil rfl, rfl⟩, ?_⟩
    rw [HWL.out] at H2
    simpa [Dk.hd, Dk.cut, Dk.pool, Dk.fl_len, hN, HWL.out] using H2
  have KEY := Lib.hid key
  clear key hwl hN hoff hKN
  cases hW with
  | nil hwv =>
    subst hwv
    go_enter Try.func14, Try.ntmps14
    go_wp2_with (first | (refine li_load 0 4 rfl rfl rfl HO1 rfl rfl (by kernel_rfl) ?_) | (refine li_load 0 60 rfl rfl rfl HO1 rfl rfl (by kernel_rfl) ?_))
    go_loopg [21] 0 (fun k x wr => x = .int .i64 0 ∧ k = 0 ∧ wr = w)
    case atStart => exact ⟨by rfl, by omega, rfl⟩
    case round =>
      obtain ⟨rfl, hk, rfl⟩ := hrel
      go_wp2_with (first | (refine li_storeSlice 0 60 rfl rfl rfl rfl HO1 rfl rfl (by simp) (by kernel_rfl) ?_; clear HO1; intro ws HO1; simp only [List.set_cons_zero, List.set_cons_succ] at HO1) | (refine li_storeBool 0 4 rfl rfl rfl rfl HO1 rfl rfl (by simp) (by kernel_rfl) ?_; clear HO1; intro ws HO1; simp only [List.set_cons_zero, List.set_cons_succ] at HO1))
      go_end0
      exact ⟨rfl, KEY.out _ HO1⟩
  | row _ gw cw hwv hpos =>
    subst hwv
    obtain ⟨M, hM⟩ : ∃ M, wl.length = M := ⟨_, rfl⟩
    have HMM := Lib.hid hM
    rw [hM] at HO1 hfew
    clear hM hpos
    go_enter Try.func14, Try.ntmps14
    go_wp2_with (first | (refine li_load 0 4 rfl rfl rfl HO1 rfl rfl (by kernel_rfl) ?_) | (refine li_load 0 60 rfl rfl rfl HO1 rfl rfl (by kernel_rfl) ?_))
    go_loopg [21] M (fun k x wr => ∃ i : Nat, x = .int .i64 (i : Int) ∧ i ≤ M ∧ k = M - i ∧ Own w0 wr ((g, CellsP 62 [.int .i64 (D.size : Int), .slice (some ⟨gl, 0, none⟩) N cl, .slice (some ⟨gw, 0, none⟩) M cw, .bool false]) :: (gl, RowP 65 3 cl ((Dk.fl D.lasts (Dk.cutL keep t 0 (wl.take i))).flatMap Dk.Sec.cells)) :: ([(gw, RowP 67 4 cw (wl.flatMap Dk.wcells))] ++ Dk.pool D ++ L)))
    case atStart => exact ⟨0, by rfl, by omega, by omega, HO1⟩
    case round =>
      clear HO1 HO hD
      obtain ⟨i, rfl, i1, hk, HO⟩ := hrel
      rcases Nat.lt_or_ge i M with hi | hi
      · have hd : decide ((i : Int) < (M : Int)) = true := decide_eq_true (by omega)
        have hw1 : IntKind.i64.wrap ((i : Int) + 1) = ((i + 1 : Nat) : Int) := by rw [IntWalk.i64_in _ (by omega)]; rfl
        have hb0 : (0 : Int) ≤ (i : Int) := by omega
        have hb1 : (i : Int) < (M : Int) := by omega
        obtain ⟨x, hx⟩ : ∃ x, wl[i]? = some x := ⟨_, List.getElem?_eq_getElem (by rw [HMM.out]; exact hi)⟩
        have hxn := HWN.out x (List.mem_of_getElem? hx)
        rw [HN.out] at hxn
        have hst : Dk.fl D.lasts (Dk.cutL keep t 0 (wl.take (i + 1))) = Dk.fl (Dk.fl D.lasts (Dk.cutL keep t 0 (wl.take i))) (if (i : Int) = t then [(x.1, Dk.tornS)] else if keep.getD i false then [x] else []) := by
          rw [List.take_add_one, hx, Dk.cutL_append, Dk.fl_append]
          congr 1
          have : 0 + (wl.take i).length = i := by rw [List.length_take, HMM.out]; omega
          rw [this]
          simp [Dk.cutL]
        have hfl : (Dk.fl D.lasts (Dk.cutL keep t 0 (wl.take i))).length = N := by rw [Dk.fl_len, HN.out]
        have hcell : ∀ (j : Nat) v, (Dk.wcells x)[j]? = some v → wr.cell? ⟨gw, i * 4 + j, none⟩ = some v := fun j v hv => by
          have hj : j < 4 := by have := (List.getElem?_eq_some_iff.1 hv).1; simpa [Dk.wcells, Dk.Sec.cells] using this
          exact HO.rowCell 2 rfl (i * 4 + j) (by rw [flat_get Dk.wr_len _ _ _ _ hx hj]; exact hv)
        have HC := Lib.hid hcell
        have HFL := Lib.hid hfl
        obtain ⟨F, hF⟩ : ∃ F, Dk.fl D.lasts (Dk.cutL keep t 0 (wl.take i)) = F := ⟨_, rfl⟩
        rw [hF] at HO HFL hst
        obtain ⟨nx, sx⟩ := x
        obtain ⟨vq, vn, vc, hv⟩ := Dk.v_slice sx
        obtain ⟨t1, ht1⟩ : ∃ t1, sx.turned = t1 := ⟨_, rfl⟩
        obtain ⟨t2, ht2⟩ : ∃ t2, sx.torn = t2 := ⟨_, rfl⟩
        have hwc : Dk.wcells (nx, sx) = [.int .i64 (nx : Int), .slice vq vn vc, .bool t1, .bool t2] := by unfold Dk.wcells Dk.Sec.cells; rw [hv, ht1, ht2]
        have hsc : sx.cells = [.slice vq vn vc, .bool t1, .bool t2] := by unfold Dk.Sec.cells; rw [hv, ht1, ht2]
        rw [hwc] at HC
        have hfs := flat_set Dk.sec_len F nx sx (by rw [HFL.out]; exact hxn)
        rw [hsc] at hfs
        have HFS := Lib.hid hfs
        have HFT := Lib.hid (flat_set Dk.sec_len F nx Dk.tornS (by rw [HFL.out]; exact hxn))
        have hlf := Lib.hid (show nx * 3 + 3 ≤ (F.flatMap Dk.Sec.cells).length by rw [flat_len Dk.sec_len, HFL.out]; omega)
        have hn0 : (0 : Int) ≤ (nx : Int) := by omega
        have hn1 : (nx : Int) < (N : Int) := by omega
        clear hv ht1 ht2 hwc hsc hfs hcell hfl hx hF
        go_upto_region 4 with (first | (refine li_loadAggAt 67 4 (vs := [.int .i64 (nx : Int), .slice vq vn vc, .bool t1, .bool t2]) rfl rfl rfl (fun j v hv => by rw [add_off]; exact HC.out j v hv) rfl (by kernel_rfl) (by kernel_rfl) (by kernel_rfl) ?_) | (refine li_alloc (t := 67) rfl rfl (z := .agg #[.int .i64 0, .slice none 0 0, .bool false, .bool false]) (cs := [.int .i64 0, .slice none 0 0, .bool false, .bool false]) (by kernel_rfl) rfl HO ?_; clear HO; intro ga wa HO) | (refine li_storeAgg 0 67 rfl rfl rfl rfl HO rfl rfl rfl rfl (by kernel_rfl) ?_; clear HO; intro ws HO; simp only [List.set_cons_zero] at HO))
        by_cases hit : (i : Int) = t
        · have hq : ((i : Int) == t) = true := by simp [hit]
          rw [if_pos hit] at hst
          have HST := Lib.hid (show _ = F.set nx Dk.tornS from hst)
          clear hst hit
          go_upto_region 5 with (fail)
          refine start_ (n := 9) (S := fun w' => w'.cell? ⟨g, 1, none⟩ = some (.slice (some ⟨gl, 0, none⟩) N cl) ∧ w'.cell? ⟨ga, 0, none⟩ = some (.int .i64 (nx : Int))) (ds := [8]) #[false, false, false, false, false, false, false, false, false] (by kernel_rfl) rfl rfl ⟨(by first | exact HO.drew.cell 0 rfl _ rfl | exact HO.drew.cell 1 rfl _ rfl | exact HO.drew.cell 2 rfl _ rfl), (by first | exact HO.drew.cell 0 rfl _ rfl | exact HO.drew.cell 1 rfl _ rfl | exact HO.drew.cell 2 rfl _ rfl)⟩ (fun hHeld => ?_)
          replace HO := HO.drew
          refine pure_ (i := 0) (N := some 30) (v := ?_) (a' := ?_) #[true, false, false, false, false, false, false, false, false] rfl rfl (by kernel_rfl) (fun _ _ _ h => h) (Or.inl ⟨by rfl, ?_⟩) ?_ ?_
          rotate_left
          · intro w'
            go_simp
            with_reducible rfl
          rotate_left
          · simp only [Act.put, List.setIfInBounds_toArray, List.set_cons_zero, List.set_cons_succ, i64_w, i32_w]
            rfl
          refine pure_ (i := 1) (N := some 31) (v := ?_) (a' := ?_) #[true, true, false, false, false, false, false, false, false] rfl rfl (by kernel_rfl) (fun _ _ _ h => h) (Or.inl ⟨by rfl, ?_⟩) ?_ ?_
          rotate_left
          · intro w'
            go_simp
            with_reducible rfl
          rotate_left
          · simp only [Act.put, List.setIfInBounds_toArray, List.set_cons_zero, List.set_cons_succ, i64_w, i32_w]
            rfl
          refine pure_ (i := 2) (N := some 32) (v := ?_) (a' := ?_) #[true, true, true, false, false, false, false, false, false] rfl rfl (by kernel_rfl) (fun _ _ _ h => h) (Or.inl ⟨by rfl, ?_⟩) ?_ ?_
          rotate_left
          · intro w'
            go_simp
            with_reducible rfl
          rotate_left
          · simp only [Act.put, List.setIfInBounds_toArray, List.set_cons_zero, List.set_cons_succ, i64_w, i32_w]
            rfl
          refine pure_ (i := 4) (N := some 34) (v := ?_) (a' := ?_) #[true, true, true, false, true, false, false, false, false] rfl rfl (by kernel_rfl) (fun _ _ _ h => h) (Or.inl ⟨by rfl, ?_⟩) ?_ ?_
          rotate_left
          · intro w'
            go_simp
            with_reducible rfl
          rotate_left
          · simp only [Act.put, List.setIfInBounds_toArray, List.set_cons_zero, List.set_cons_succ, i64_w, i32_w]
            rfl
          refine pure_ (i := 6) (N := some 36) (v := ?_) (a' := ?_) #[true, true, true, false, true, false, true, false, false] rfl rfl (by kernel_rfl) (fun _ _ _ h => h) (Or.inl ⟨by rfl, ?_⟩) ?_ ?_
          rotate_left
          · intro w'
            go_simp
            with_reducible rfl
          rotate_left
          · simp only [Act.put, List.setIfInBounds_toArray, List.set_cons_zero, List.set_cons_succ, i64_w, i32_w]
            rfl
          refine take_ (i := 3) (N := some 33) (v := ?_) (a' := ?_) #[true, true, true, true, true, false, true, false, false] rfl rfl (by kernel_rfl) (fun _ _ _ h => h) (Or.inl ⟨by rfl, ?_⟩) hHeld ?_ ?_
          rotate_left
          · rintro w' ⟨s0, s1⟩
            go_simp
            with_reducible rfl
          rotate_left
          · simp only [Act.put, List.setIfInBounds_toArray, List.set_cons_zero, List.set_cons_succ, i64_w, i32_w]
            rfl
          refine take_ (i := 5) (N := some 35) (v := ?_) (a' := ?_) #[true, true, true, true, true, true, true, false, false] rfl rfl (by kernel_rfl) (fun _ _ _ h => h) (Or.inl ⟨by rfl, ?_⟩) hHeld ?_ ?_
          rotate_left
          · rintro w' ⟨s0, s1⟩
            go_simp
            with_reducible rfl
          rotate_left
          · simp only [Act.put, List.setIfInBounds_toArray, List.set_cons_zero, List.set_cons_succ, i64_w, i32_w]
            rfl
          refine pure_ (i := 7) (N := some 37) (v := ?_) (a' := ?_) #[true, true, true, true, true, true, true, true, false] rfl rfl (by kernel_rfl) (fun _ _ _ h => h) (Or.inl ⟨by rfl, ?_⟩) ?_ ?_
          rotate_left
          · intro w'
            go_simp
            with_reducible rfl
          rotate_left
          · simp only [Act.put, List.setIfInBounds_toArray, List.set_cons_zero, List.set_cons_succ, i64_w, i32_w]
            rfl
          refine last_ (i := 8) (N := none) #[true, true, true, true, true, true, true, true, true] rfl rfl (by kernel_rfl) (by decide) (fun K hK => ?_)
          refine st_storeRowAgg 2 (vs := [.slice none 0 0, .bool false, .bool true]) rfl rfl rfl (off := nx * 3) rfl HO rfl rfl rfl hlf.out (by kernel_rfl) ?_
          clear HO
          intro ws HO
          simp only [List.set_cons_zero, List.set_cons_succ] at HO
          refine hK.out _ _ ?_
          clear hK K
          refine done_ (by kernel_rfl) ?_
          have h3 := HFT.out
          have h4 : splice (F.flatMap Dk.Sec.cells) (nx * 3) [.slice none 0 0, .bool false, .bool true] = (F.set nx Dk.tornS).flatMap Dk.Sec.cells := h3
          rw [h4, ← HST.out] at HO
          clear h3 h4
          go_wp2_with (fail)
          go_roundg (M - (i + 1))
          case measure => omega
          case rel => exact ⟨i + 1, rfl, by omega, rfl, HO.tail⟩
        · have hq : ((i : Int) == t) = false := by simp [hit]
          rw [if_neg hit] at hst
          have HST := Lib.hid hst
          clear hst hit
          rcases Nat.lt_or_ge i KN with hik | hik
          · obtain ⟨b, hb⟩ : ∃ b, keep[i]? = some b := ⟨_, List.getElem?_eq_getElem (by rw [HKN.out]; exact hik)⟩
            obtain ⟨ak, rfl, hck⟩ := HKB.out i b hb
            have hgd : keep.getD i false = b := by rw [List.getD_eq_getElem?_getD, hb]; rfl
            have hdk : decide ((i : Int) < (KN : Int)) = true := decide_eq_true (by omega)
            have hbk : (i : Int) < (KN : Int) := by omega
            have hst2 := HST.out
            rw [hgd] at hst2
            clear hb hgd
            cases b with
            | true =>
              have HS2 := Lib.hid (show _ = F.set nx sx from hst2)
              clear hst2
              have hck0 := Lib.hid hck
              clear hck
              go_upto_region 7 with (refine li_loadAt 4 rfl rfl rfl (HO.old hck0.out) (by kernel_rfl) ?_)
              refine start_ (n := 10) (S := fun w' => w'.cell? ⟨g, 1, none⟩ = some (.slice (some ⟨gl, 0, none⟩) N cl) ∧ w'.cell? ⟨ga, 0, none⟩ = some (.int .i64 (nx : Int)) ∧ w'.cell? ⟨ga, 1, none⟩ = some (.slice vq vn vc) ∧ w'.cell? ⟨ga, 2, none⟩ = some (.bool t1) ∧ w'.cell? ⟨ga, 3, none⟩ = some (.bool t2)) (ds := [9]) #[false, false, false, false, false, false, false, false, false, false] (by kernel_rfl) rfl rfl ⟨(by first | exact HO.drew.cell 0 rfl _ rfl | exact HO.drew.cell 1 rfl _ rfl | exact HO.drew.cell 2 rfl _ rfl), (by first | exact HO.drew.cell 0 rfl _ rfl | exact HO.drew.cell 1 rfl _ rfl | exact HO.drew.cell 2 rfl _ rfl), (by first | exact HO.drew.cell 0 rfl _ rfl | exact HO.drew.cell 1 rfl _ rfl | exact HO.drew.cell 2 rfl _ rfl), (by first | exact HO.drew.cell 0 rfl _ rfl | exact HO.drew.cell 1 rfl _ rfl | exact HO.drew.cell 2 rfl _ rfl), (by first | exact HO.drew.cell 0 rfl _ rfl | exact HO.drew.cell 1 rfl _ rfl | exact HO.drew.cell 2 rfl _ rfl)⟩ (fun hHeld => ?_)
              replace HO := HO.drew
              refine pure_ (i := 0) (N := some 49) (v := ?_) (a' := ?_) #[true, false, false, false, false, false, false, false, false, false] rfl rfl (by kernel_rfl) (fun _ _ _ h => h) (Or.inl ⟨by rfl, ?_⟩) ?_ ?_
              rotate_left
              · intro w'
                go_simp
                with_reducible rfl
              rotate_left
              · simp only [Act.put, List.setIfInBounds_toArray, List.set_cons_zero, List.set_cons_succ, i64_w, i32_w]
                rfl
              refine pure_ (i := 1) (N := some 50) (v := ?_) (a' := ?_) #[true, true, false, false, false, false, false, false, false, false] rfl rfl (by kernel_rfl) (fun _ _ _ h => h) (Or.inl ⟨by rfl, ?_⟩) ?_ ?_
              rotate_left
              · intro w'
                go_simp
                with_reducible rfl
              rotate_left
              · simp only [Act.put, List.setIfInBounds_toArray, List.set_cons_zero, List.set_cons_succ, i64_w, i32_w]
                rfl
              refine pure_ (i := 2) (N := some 51) (v := ?_) (a' := ?_) #[true, true, true, false, false, false, false, false, false, false] rfl rfl (by kernel_rfl) (fun _ _ _ h => h) (Or.inl ⟨by rfl, ?_⟩) ?_ ?_
              rotate_left
              · intro w'
                go_simp
                with_reducible rfl
              rotate_left
              · simp only [Act.put, List.setIfInBounds_toArray, List.set_cons_zero, List.set_cons_succ, i64_w, i32_w]
                rfl
              refine pure_ (i := 4) (N := some 53) (v := ?_) (a' := ?_) #[true, true, true, false, true, false, false, false, false, false] rfl rfl (by kernel_rfl) (fun _ _ _ h => h) (Or.inl ⟨by rfl, ?_⟩) ?_ ?_
              rotate_left
              · intro w'
                go_simp
                with_reducible rfl
              rotate_left
              · simp only [Act.put, List.setIfInBounds_toArray, List.set_cons_zero, List.set_cons_succ, i64_w, i32_w]
                rfl
              refine pure_ (i := 6) (N := some 55) (v := ?_) (a' := ?_) #[true, true, true, false, true, false, true, false, false, false] rfl rfl (by kernel_rfl) (fun _ _ _ h => h) (Or.inl ⟨by rfl, ?_⟩) ?_ ?_
              rotate_left
              · intro w'
                go_simp
                with_reducible rfl
              rotate_left
              · simp only [Act.put, List.setIfInBounds_toArray, List.set_cons_zero, List.set_cons_succ, i64_w, i32_w]
                rfl
              refine take_ (i := 3) (N := some 52) (v := ?_) (a' := ?_) #[true, true, true, true, true, false, true, false, false, false] rfl rfl (by kernel_rfl) (fun _ _ _ h => h) (Or.inl ⟨by rfl, ?_⟩) hHeld ?_ ?_
              rotate_left
              · rintro w' ⟨s0, s1, s2, s3, s4⟩
                go_simp
                with_reducible rfl
              rotate_left
              · simp only [Act.put, List.setIfInBounds_toArray, List.set_cons_zero, List.set_cons_succ, i64_w, i32_w]
                rfl
              refine take_ (i := 5) (N := some 54) (v := ?_) (a' := ?_) #[true, true, true, true, true, true, true, false, false, false] rfl rfl (by kernel_rfl) (fun _ _ _ h => h) (Or.inl ⟨by rfl, ?_⟩) hHeld ?_ ?_
              rotate_left
              · rintro w' ⟨s0, s1, s2, s3, s4⟩
                go_simp
                with_reducible rfl
              rotate_left
              · simp only [Act.put, List.setIfInBounds_toArray, List.set_cons_zero, List.set_cons_succ, i64_w, i32_w]
                rfl
              refine take_ (i := 7) (N := some 56) (v := ?_) (a' := ?_) #[true, true, true, true, true, true, true, true, false, false] rfl rfl (by kernel_rfl) (fun _ _ _ h => h) (Or.inl ⟨by rfl, ?_⟩) hHeld ?_ ?_
              rotate_left
              · rintro w' ⟨s0, s1, s2, s3, s4⟩
                go_simp
                with_reducible rfl
              rotate_left
              · simp only [Act.put, List.setIfInBounds_toArray, List.set_cons_zero, List.set_cons_succ, i64_w, i32_w]
                rfl
              refine pure_ (i := 8) (N := some 57) (v := ?_) (a' := ?_) #[true, true, true, true, true, true, true, true, true, false] rfl rfl (by kernel_rfl) (fun _ _ _ h => h) (Or.inl ⟨by rfl, ?_⟩) ?_ ?_
              rotate_left
              · intro w'
                go_simp
                with_reducible rfl
              rotate_left
              · simp only [Act.put, List.setIfInBounds_toArray, List.set_cons_zero, List.set_cons_succ, i64_w, i32_w]
                rfl
              refine last_ (i := 9) (N := none) #[true, true, true, true, true, true, true, true, true, true] rfl rfl (by kernel_rfl) (by decide) (fun K hK => ?_)
              refine st_storeRowAgg 2 (vs := [.slice vq vn vc, .bool t1, .bool t2]) rfl rfl rfl (off := nx * 3) rfl HO rfl rfl rfl hlf.out (by kernel_rfl) ?_
              clear HO
              intro ws HO
              simp only [List.set_cons_zero, List.set_cons_succ] at HO
              refine hK.out _ _ ?_
              clear hK K
              refine done_ (by kernel_rfl) ?_
              rw [HFS.out, ← HS2.out] at HO
              go_wp2_with (fail)
              go_roundg (M - (i + 1))
              case measure => omega
              case rel => exact ⟨i + 1, rfl, by omega, rfl, HO.tail⟩
            | false =>
              have HS2 := Lib.hid (show _ = F from hst2)
              clear hst2
              have hck0 := Lib.hid hck
              clear hck
              go_wp2_with (refine li_loadAt 4 rfl rfl rfl (HO.old hck0.out) (by kernel_rfl) ?_)
              rw [← HS2.out] at HO
              go_roundg (M - (i + 1))
              case measure => omega
              case rel => exact ⟨i + 1, rfl, by omega, rfl, HO.tail⟩
          · have hdk : decide ((i : Int) < (KN : Int)) = false := decide_eq_false (by omega)
            have hgd : keep.getD i false = false := by rw [List.getD_eq_getElem?_getD, List.getElem?_eq_none (by rw [HKN.out]; exact hik)]; rfl
            have hst2 := HST.out
            rw [hgd] at hst2
            have HS2 := Lib.hid (show _ = F from hst2)
            clear hst2 hgd
            go_wp2_with (fail)
            rw [← HS2.out] at HO
            go_roundg (M - (i + 1))
            case measure => omega
            case rel => exact ⟨i + 1, rfl, by omega, rfl, HO.tail⟩
      · obtain rfl : i = M := by omega
        have hd : decide ((i : Int) < (i : Int)) = false := by simp
        rw [List.take_of_length_le (by rw [HMM.out]; omega)] at HO
        go_wp2_with (first | (refine li_storeSlice 0 60 rfl rfl rfl rfl HO rfl rfl (by simp) (by kernel_rfl) ?_; clear HO; intro ws HO; simp only [List.set_cons_zero, List.set_cons_succ] at HO) | (refine li_storeBool 0 4 rfl rfl rfl rfl HO rfl rfl (by simp) (by kernel_rfl) ?_; clear HO; intro ws HO; simp only [List.set_cons_zero, List.set_cons_succ] at HO))
        go_end0
        exact ⟨rfl, KEY.out _ HO⟩
end Go.Proofs.Ytbgjfdeolckljaa

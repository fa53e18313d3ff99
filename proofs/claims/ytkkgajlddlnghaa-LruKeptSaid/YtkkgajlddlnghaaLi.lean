/- The list's calls by their contracts: Drop, Touch, Kept, Bytes, Has. -/
import Derived.Test.YtkkgajlddlnghaaLh
namespace Go.Proofs.Ytkkgajlddlnghaa
set_option linter.unusedVariables false
set_option linter.unusedSimpArgs false
set_option linter.unnecessarySimpa false
open Go.RowKit Go.Proofs.YtkkgajlddlnghaaW.PrintLast Lr
namespace Lr
theorem one_key {k n n' : Int} : ∀ {l : List KV}, (l.map (·.1)).Nodup → (k, n) ∈ l → (k, n') ∈ l → n = n'
  | [], _, h, _ => by cases h
  | x :: l, hn, h, h' => by
    rw [List.map_cons, List.nodup_cons] at hn
    have key : ∀ m, (k, m) ∈ l → k ∈ l.map (·.1) := fun m hm => List.mem_map.2 ⟨(k, m), hm, rfl⟩
    rcases List.mem_cons.1 h with h1 | h1
    · rcases List.mem_cons.1 h' with h2 | h2
      · rw [← h1] at h2; injection h2 with _ h2; exact h2.symm
      · exact absurd (key _ h2) (by rw [← h1] at hn; exact hn.1)
    · rcases List.mem_cons.1 h' with h2 | h2
      · exact absurd (key _ h1) (by rw [← h2] at hn; exact hn.1)
      · exact one_key hn.2 h1 h2
theorem has_of {s : S} {c : Nat} {k n : Int} (K : Ok s c) (h : (k, n) ∈ all s) : has s k = some n := by
  unfold has
  cases hi : idx (all s) k with
  | none => exact absurd rfl (idx_none.1 hi (k, n) h)
  | some i =>
    obtain ⟨n', h1, _⟩ := idx_some hi
    simp only [Option.bind_some, h1, Option.map_some]
    rw [one_key K.nd h (List.mem_of_getElem? h1)]
theorem has_none {s : S} {k : Int} (h : isIn s k = false) : has s k = none := by
  unfold has
  unfold isIn at h
  cases hi : idx (all s) k with
  | none => rfl
  | some i => rw [hi] at h; cases h
theorem isIn_of {s : S} {k n : Int} (h : (k, n) ∈ all s) : isIn s k = true := by
  unfold isIn
  cases hi : idx (all s) k with
  | none => exact absurd rfl (idx_none.1 hi (k, n) h)
  | some i => rfl
theorem isKept_true {s : S} {k n : Int} (h : (k, n) ∈ s.kept) : isKept s k = true := by
  unfold isKept
  cases hi : idx s.kept k with
  | none => exact absurd rfl (idx_none.1 hi (k, n) h)
  | some i => rfl
theorem isKept_false {s : S} {c : Nat} {k n : Int} (K : Ok s c) (h : (k, n) ∈ s.trial) : isKept s k = false := by
  unfold isKept
  rw [idx_none.2 fun x hx e => ?_]; rfl
  have := K.nd
  unfold all at this
  rw [List.map_append, List.nodup_append] at this
  exact this.2.2 k (List.mem_map.2 ⟨_, h, rfl⟩) x.1 (List.mem_map.2 ⟨_, hx, rfl⟩) e.symm
theorem isKept_none {s : S} {k : Int} (h : isIn s k = false) : isKept s k = false := by
  unfold isKept
  rw [idx_none.2 fun x hx e => ?_]; rfl
  have hm : (k, x.2) ∈ all s := all_mem.2 (.inr (by rw [← e]; exact hx))
  rw [isIn_of hm] at h; cases h
theorem kv_mem {s : S} {tt kk : List Th} (ht : kvs tt = s.trial) (hk : kvs kk = s.kept) {x : Th} (hx : x ∈ tt ++ kk) : (x.k, x.n) ∈ all s := by
  have e : kvs (tt ++ kk) = all s := by rw [kvs_app, ht, hk]; rfl
  rw [← e]; exact List.mem_map.2 ⟨x, hx, rfl⟩
theorem cnt {s : S} {tt kk : List Th} (ht : kvs tt = s.trial) (hk : kvs kk = s.kept) : (all s).length = (tt ++ kk).length := by
  have e : kvs (tt ++ kk) = all s := by rw [kvs_app, ht, hk]; rfl
  rw [← e]; simp [kvs]
theorem Lw.mono {w0 w : World} {L : List Ent} {g n m : Nat} {s : S} (h : Lw w0 w L g n s) (hm : n ≤ m) : Lw w0 w L g m s := by
  obtain ⟨T, mb, F, tt, kk, HO, R, ht, hk⟩ := h
  have h1 : Own w0 w ((mb, Mp n F) :: (T.ents ++ L)) := HO.perm List.perm_middle
  exact ⟨T, mb, F, tt, kk, (h1.mapMono hm).perm List.perm_middle.symm, R, ht, hk⟩
end Lr
set_option maxRecDepth 20000 in
set_option maxHeartbeats 4000000 in
theorem LDrop_any {w0 w : World} {L : List Ent} {g n c : Nat} {s : S} (k : Int) (HL : Lw w0 w L g n s) (K : Ok s c) (hc : c ≤ 100000) (hw : (Lit.int .i64 k).wf = true) :
    Calls Try.prog 26 #[.pointer (some ⟨g, 0, none⟩), .int .i64 k] w fun e w' => e = .returned (.bool (isIn s k)) ∧ Lw w0 w' L g n (dropped s k) := by
  obtain ⟨T, mb, F, tt, kk, HO, R, ht, hk⟩ := HL
  have HT := Lib.hid ht
  have HK := Lib.hid hk
  have HR := Lib.hid R
  have cm := R.at_
  cases htk : take s k with
  | none =>
    have hi := take_none.1 htk
    have hF := R.fn k ((isIn_iff ht hk k).2 hi)
    have hs : dropped s k = s := by unfold dropped; rw [htk]
    rw [hi, hs]
    clear htk hi hs R ht hk K
    go_enter Try.func26, Try.ntmps26
    go_wp2_with (first | (refine li_loadT 53 rfl rfl rfl HO cm (by kernel_rfl) ?_) | (refine li_look _ rfl rfl rfl rfl HO (tab_mid _ _ _) encPtr_inj K2 Try.underlying2 Try.underlying53 (zero54 _) encPtr_nil hw hF ?_))
    go_ret
    exact ⟨rfl, T, mb, F, tt, kk, HO, HR.out, HT.out, HK.out⟩
  | some p =>
    obtain ⟨v, s1⟩ := p
    obtain ⟨x, kp, tt1, kk1, hv, O, ht1, hk1⟩ := take_out ht hk htk
    have hts := take_some htk
    have hxk : x.k = k := by have := hts.1; rw [← hv] at this; exact this
    have hF : F k = .pointer (some ⟨x.b, 0, none⟩) := by rw [← hxk]; exact R.fm x (O.perm.mem_iff.2 (List.mem_cons_self ..))
    have hi : isIn s k = true := by
      cases h : isIn s k with
      | true => rfl
      | false => rw [take_none.2 h] at htk; cases htk
    have hs : dropped s k = s1 := by unfold dropped; rw [htk]
    have HM := Lib.hid hts.2.1
    have HO2 := Lib.hid O
    have HB := Lib.hid (Bd.of_ok K (by omega) ht hk)
    have HT1 := Lib.hid ht1
    have HK1 := Lib.hid hk1
    rw [hi, hs]
    clear htk hi hs R ht hk K hts hv hxk O ht1 hk1
    go_enter Try.func26, Try.ntmps26
    go_wp2_with (first | (refine li_loadT 53 rfl rfl rfl HO cm (by kernel_rfl) ?_) | (refine li_look _ rfl rfl rfl rfl HO (tab_mid _ _ _) encPtr_inj K2 Try.underlying2 Try.underlying53 (zero54 _) encPtr_nil hw hF ?_))
    go_at_call 36; refine (out_any HO HR.out HO2.out HB.out).mono ?_; rintro e w2 ⟨rfl, T1, F1, HO1, R1, _⟩
    rw [← HM.out] at R1
    clear HO
    go_wp2_with (fail)
    go_ret
    exact ⟨rfl, T1, mb, F1, tt1, kk1, HO1, R1, HT1.out, HK1.out⟩
set_option maxRecDepth 20000 in
theorem LBytes_any {w0 w : World} {L : List Ent} {g n : Nat} {s : S} (HL : Lw w0 w L g n s) :
    Calls Try.prog 17 #[.pointer (some ⟨g, 0, none⟩)] w fun e w' => e = .returned (.tuple #[.int .i64 (sum s.trial + sum s.kept), .int .i64 (sum s.kept)]) ∧ Lw w0 w' L g n s := by
  obtain ⟨T, mb, F, tt, kk, HO, R, ht, hk⟩ := HL
  have ca := R.all_
  have ch := R.held
  rw [ht, hk] at ca
  rw [hk] at ch
  have HR := Lib.hid R
  clear R
  go_enter Try.func17, Try.ntmps17
  go_upto_region 1 with (fail)
  refine start_ (n := 10) (S := fun w' => w'.cell? ⟨g, 12, none⟩ = some (.int .i64 (sum s.trial + sum s.kept)) ∧ w'.cell? ⟨g, 13, none⟩ = some (.int .i64 (sum s.kept))) (ds := []) #[false, false, false, false, false, false, false, false, false, false] (by kernel_rfl) rfl rfl ⟨(HO.drew.tabCell ca), (HO.drew.tabCell ch)⟩ (fun hHeld => ?_)
  replace HO := HO.drew
  refine pure_ (i := 0) (N := some 4) (v := ?_) (a' := ?_) #[true, false, false, false, false, false, false, false, false, false] rfl rfl (by kernel_rfl) (fun _ _ _ h => h) (Or.inl ⟨by rfl, ?_⟩) ?_ ?_
  rotate_left
  · intro w'
    go_simp
    with_reducible rfl
  rotate_left
  · simp only [Act.put, List.setIfInBounds_toArray, List.set_cons_zero, List.set_cons_succ, i64_w, i32_w]
    rfl
  refine pure_ (i := 1) (N := some 5) (v := ?_) (a' := ?_) #[true, true, false, false, false, false, false, false, false, false] rfl rfl (by kernel_rfl) (fun _ _ _ h => h) (Or.inl ⟨by rfl, ?_⟩) ?_ ?_
  rotate_left
  · intro w'
    go_simp
    with_reducible rfl
  rotate_left
  · simp only [Act.put, List.setIfInBounds_toArray, List.set_cons_zero, List.set_cons_succ, i64_w, i32_w]
    rfl
  refine pure_ (i := 2) (N := some 6) (v := ?_) (a' := ?_) #[true, true, true, false, false, false, false, false, false, false] rfl rfl (by kernel_rfl) (fun _ _ _ h => h) (Or.inl ⟨by rfl, ?_⟩) ?_ ?_
  rotate_left
  · intro w'
    go_simp
    with_reducible rfl
  rotate_left
  · simp only [Act.put, List.setIfInBounds_toArray, List.set_cons_zero, List.set_cons_succ, i64_w, i32_w]
    rfl
  refine pure_ (i := 4) (N := some 8) (v := ?_) (a' := ?_) #[true, true, true, false, true, false, false, false, false, false] rfl rfl (by kernel_rfl) (fun _ _ _ h => h) (Or.inl ⟨by rfl, ?_⟩) ?_ ?_
  rotate_left
  · intro w'
    go_simp
    with_reducible rfl
  rotate_left
  · simp only [Act.put, List.setIfInBounds_toArray, List.set_cons_zero, List.set_cons_succ, i64_w, i32_w]
    rfl
  refine pure_ (i := 5) (N := some 9) (v := ?_) (a' := ?_) #[true, true, true, false, true, true, false, false, false, false] rfl rfl (by kernel_rfl) (fun _ _ _ h => h) (Or.inl ⟨by rfl, ?_⟩) ?_ ?_
  rotate_left
  · intro w'
    go_simp
    with_reducible rfl
  rotate_left
  · simp only [Act.put, List.setIfInBounds_toArray, List.set_cons_zero, List.set_cons_succ, i64_w, i32_w]
    rfl
  refine pure_ (i := 6) (N := some 10) (v := ?_) (a' := ?_) #[true, true, true, false, true, true, true, false, false, false] rfl rfl (by kernel_rfl) (fun _ _ _ h => h) (Or.inl ⟨by rfl, ?_⟩) ?_ ?_
  rotate_left
  · intro w'
    go_simp
    with_reducible rfl
  rotate_left
  · simp only [Act.put, List.setIfInBounds_toArray, List.set_cons_zero, List.set_cons_succ, i64_w, i32_w]
    rfl
  refine take_ (i := 3) (N := some 7) (v := ?_) (a' := ?_) #[true, true, true, true, true, true, true, false, false, false] rfl rfl (by kernel_rfl) (fun _ _ _ h => h) (Or.inl ⟨by rfl, ?_⟩) hHeld ?_ ?_
  rotate_left
  · rintro w' ⟨s0, s1⟩
    go_simp
    with_reducible rfl
  rotate_left
  · simp only [Act.put, List.setIfInBounds_toArray, List.set_cons_zero, List.set_cons_succ, i64_w, i32_w]
    rfl
  refine pure_ (i := 8) (N := some 2) (v := ?_) (a' := ?_) #[true, true, true, true, true, true, true, false, true, false] rfl rfl (by kernel_rfl) (fun _ _ _ h => h) (Or.inl ⟨by rfl, ?_⟩) ?_ ?_
  rotate_left
  · intro w'
    go_simp
    with_reducible rfl
  rotate_left
  · simp only [Act.put, List.setIfInBounds_toArray, List.set_cons_zero, List.set_cons_succ, i64_w, i32_w]
    rfl
  refine take_ (i := 7) (N := some 11) (v := ?_) (a' := ?_) #[true, true, true, true, true, true, true, true, true, false] rfl rfl (by kernel_rfl) (fun _ _ _ h => h) (Or.inl ⟨by rfl, ?_⟩) hHeld ?_ ?_
  rotate_left
  · rintro w' ⟨s0, s1⟩
    go_simp
    with_reducible rfl
  rotate_left
  · simp only [Act.put, List.setIfInBounds_toArray, List.set_cons_zero, List.set_cons_succ, i64_w, i32_w]
    rfl
  refine pure_ (i := 9) (N := some 3) (v := ?_) (a' := ?_) #[true, true, true, true, true, true, true, true, true, true] rfl rfl (by kernel_rfl) (fun _ _ _ h => h) (Or.inl ⟨by rfl, ?_⟩) ?_ ?_
  rotate_left
  · intro w'
    go_simp
    with_reducible rfl
  rotate_left
  · simp only [Act.put, List.setIfInBounds_toArray, List.set_cons_zero, List.set_cons_succ, i64_w, i32_w]
    rfl
  refine done_ (by kernel_rfl) ?_
  go_wp2_with (fail)
  go_ret2
  exact ⟨rfl, T, mb, F, tt, kk, HO, HR.out, ht, hk⟩
set_option maxRecDepth 20000 in
set_option maxHeartbeats 4000000 in
theorem LHas_any {w0 w : World} {L : List Ent} {g n c : Nat} {s : S} (k : Int) (HL : Lw w0 w L g n s) (K : Ok s c) (hw : (Lit.int .i64 k).wf = true) :
    Calls Try.prog 19 #[.pointer (some ⟨g, 0, none⟩), .int .i64 k] w fun e w' => e = .returned (.tuple #[.int .i64 ((has s k).getD 0), .bool (isIn s k)]) ∧ Lw w0 w' L g n s := by
  obtain ⟨T, mb, F, tt, kk, HO, R, ht, hk⟩ := HL
  have HT := Lib.hid ht
  have HK := Lib.hid hk
  have HR := Lib.hid R
  have cm := R.at_
  rcases lookF R k with ⟨x, hx, rfl, hF⟩ | ⟨hne, hF⟩
  · have hm := kv_mem ht hk hx
    have hh := has_of K hm
    have hi := isIn_of hm
    have c1 : T.get x.b 1 = some (.int .i64 x.n) := by
      rcases List.mem_append.1 hx with hx | hx
      · exact (R.ct x hx).2.1
      · exact (R.ck x hx).2.1
    have hF' : F x.k = .pointer (some ⟨x.b, 0, none⟩) := hF
    rw [hh, hi]
    clear R ht hk K hx hm hh hi hF
    go_enter Try.func19, Try.ntmps19
    go_wp2_with (first | (refine li_loadT 53 rfl rfl rfl HO cm (by kernel_rfl) ?_) | (refine li_look _ rfl rfl rfl rfl HO (tab_mid _ _ _) encPtr_inj K2 Try.underlying2 Try.underlying53 (zero54 _) encPtr_nil hw hF' ?_) | (refine li_loadT 2 rfl rfl rfl HO c1 (by kernel_rfl) ?_))
    go_ret2
    exact ⟨rfl, T, mb, F, tt, kk, HO, HR.out, HT.out, HK.out⟩
  · have hi := (isIn_iff ht hk k).1 hne
    rw [has_none hi, hi]
    clear R ht hk K hne hi
    go_enter Try.func19, Try.ntmps19
    go_wp2_with (first | (refine li_loadT 53 rfl rfl rfl HO cm (by kernel_rfl) ?_) | (refine li_look _ rfl rfl rfl rfl HO (tab_mid _ _ _) encPtr_inj K2 Try.underlying2 Try.underlying53 (zero54 _) encPtr_nil hw hF ?_))
    go_ret2
    exact ⟨rfl, T, mb, F, tt, kk, HO, HR.out, HT.out, HK.out⟩
set_option maxRecDepth 20000 in
set_option maxHeartbeats 4000000 in
theorem LKept_any {w0 w : World} {L : List Ent} {g n c : Nat} {s : S} (k : Int) (HL : Lw w0 w L g n s) (K : Ok s c) (hw : (Lit.int .i64 k).wf = true) :
    Calls Try.prog 21 #[.pointer (some ⟨g, 0, none⟩), .int .i64 k] w fun e w' => e = .returned (.bool (isKept s k)) ∧ Lw w0 w' L g n s := by
  obtain ⟨T, mb, F, tt, kk, HO, R, ht, hk⟩ := HL
  have HT := Lib.hid ht
  have HK := Lib.hid hk
  have HR := Lib.hid R
  have cm := R.at_
  rcases lookF R k with ⟨x, hx, rfl, hF⟩ | ⟨hne, hF⟩
  · have c2 : T.get x.b 2 = some (.bool (isKept s x.k)) := by
      rcases List.mem_append.1 hx with hx | hx
      · rw [isKept_false (n := x.n) K (by rw [← ht]; exact List.mem_map.2 ⟨x, hx, rfl⟩)]
        exact (R.ct x hx).2.2
      · rw [isKept_true (n := x.n) (by rw [← hk]; exact List.mem_map.2 ⟨x, hx, rfl⟩)]
        exact (R.ck x hx).2.2
    have hF' : F x.k = .pointer (some ⟨x.b, 0, none⟩) := hF
    obtain ⟨kp, hkp⟩ : ∃ kp, isKept s x.k = kp := ⟨_, rfl⟩
    rw [hkp] at c2 ⊢
    clear R ht hk K hx hF hkp
    go_enter Try.func21, Try.ntmps21
    go_wp2_with (first | (refine li_loadT 53 rfl rfl rfl HO cm (by kernel_rfl) ?_) | (refine li_look _ rfl rfl rfl rfl HO (tab_mid _ _ _) encPtr_inj K2 Try.underlying2 Try.underlying53 (zero54 _) encPtr_nil hw hF' ?_) | (refine li_loadT 4 rfl rfl rfl HO c2 (by kernel_rfl) ?_))
    go_ret
    exact ⟨rfl, T, mb, F, tt, kk, HO, HR.out, HT.out, HK.out⟩
  · have hi := (isIn_iff ht hk k).1 hne
    rw [isKept_none hi]
    clear R ht hk K hne hi
    go_enter Try.func21, Try.ntmps21
    go_wp2_with (first | (refine li_loadT 53 rfl rfl rfl HO cm (by kernel_rfl) ?_) | (refine li_look _ rfl rfl rfl rfl HO (tab_mid _ _ _) encPtr_inj K2 Try.underlying2 Try.underlying53 (zero54 _) encPtr_nil hw hF ?_))
    go_ret
    exact ⟨rfl, T, mb, F, tt, kk, HO, HR.out, HT.out, HK.out⟩
end Go.Proofs.Ytkkgajlddlnghaa

/- Touch: what was asked goes last of the kept ones; what is too much goes back. -/
import Derived.Test.YtkkgajlddlnghaaLi
namespace Go.Proofs.Ytkkgajlddlnghaa
set_option linter.unusedVariables false
set_option linter.unusedSimpArgs false
set_option linter.unnecessarySimpa false
open Go.RowKit Go.Proofs.YtkkgajlddlnghaaW.PrintLast Lr
set_option maxRecDepth 20000 in
set_option maxHeartbeats 8000000 in
theorem LTouch_any {w0 w : World} {L : List Ent} {g n c : Nat} {s : S} (k : Int) (HL : Lw w0 w L g n s) (K : Ok s c) (hc : c ≤ 100000) (hw : (Lit.int .i64 k).wf = true) (hn : n ≤ 1000000000) :
    Calls Try.prog 24 #[.pointer (some ⟨g, 0, none⟩), .int .i64 k] w fun e w' => e = .returned (.bool (isIn s k)) ∧ Lw w0 w' L g (n + c + 5) (touched s k) := by
  have HLm := Lib.hid (HL.mono (m := n + c + 5) (by omega))
  obtain ⟨T, mb, F, tt, kk, HO, R, ht, hk⟩ := HL
  have HR := Lib.hid R
  have cm := R.at_
  cases htk : take s k with
  | none =>
    have hi := take_none.1 htk
    have hF := R.fn k ((isIn_iff ht hk k).2 hi)
    have hs : touched s k = s := by unfold touched; rw [htk]
    rw [hi, hs]
    clear htk hi hs R ht hk K
    go_enter Try.func24, Try.ntmps24
    go_wp2_with (first | (refine li_loadT 53 rfl rfl rfl HO cm (by kernel_rfl) ?_) | (refine li_look _ rfl rfl rfl rfl HO (tab_mid _ _ _) encPtr_inj K2 Try.underlying2 Try.underlying53 (zero54 _) encPtr_nil hw hF ?_))
    go_ret
    exact ⟨rfl, HLm.out⟩
  | some p =>
    obtain ⟨v, s1⟩ := p
    obtain ⟨x, kp, tt1, kk1, hv, O, ht1, hk1⟩ := take_out ht hk htk
    have hts := take_some htk
    have hxk : x.k = k := by have := hts.1; rw [← hv] at this; exact this
    have hF : F k = .pointer (some ⟨x.b, 0, none⟩) := by rw [← hxk]; exact R.fm x (O.perm.mem_iff.2 (List.mem_cons_self ..))
    have hi : isIn s k = true := by
      cases h : isIn s k with
      | true => rfl
      | false => rw [take_none.2 h] at htk; cases htk
    have hs : touched s k = { s1 with trial := (Lr.settle s.most (kvs tt1) (kvs (kk1 ++ [x]))).1, kept := (Lr.settle s.most (kvs tt1) (kvs (kk1 ++ [x]))).2 } := by
      unfold touched
      rw [htk, kvs_app, ht1, hk1]
      simp [kvs, hv]
    have hB := Bd.of_ok K (by omega) ht hk
    have HMo := Lib.hid hts.2.1
    have HO2 := Lib.hid O
    have HB := Lib.hid hB
    have hB1 := Lib.hid (show Bd (tt1 ++ (kk1 ++ [x])) from hB.perm (O.perm.trans (by rw [← List.append_assoc]; exact List.perm_append_comm (l₁ := [x]))))
    have hn' := Lib.hid (show n < maxLen by unfold maxLen; omega)
    have hlen := Lib.hid (show (kk1 ++ [x]).length ≤ c + 1 by
      have h1 := K.len
      rw [cnt ht hk] at h1
      have h2 := O.perm.length_eq
      simp at h1 h2 ⊢; omega)
    have h0 := Lib.hid K.m0
    have hm : s1.most = s.most := hts.2.1
    rw [hi, hs]
    obtain ⟨M, hM⟩ : ∃ M, s.most = M := ⟨_, rfl⟩
    rw [hM] at hm h0 ⊢
    have HM := Lib.hid hM
    have HM1 := Lib.hid hm
    clear htk hi hs R ht hk K hts hv hxk O ht1 hk1 hB hM hm
    go_enter Try.func24, Try.ntmps24
    go_wp2_with (first | (refine li_loadT 53 rfl rfl rfl HO cm (by kernel_rfl) ?_) | (refine li_look _ rfl rfl rfl rfl HO (tab_mid _ _ _) encPtr_inj K2 Try.underlying2 Try.underlying53 (zero54 _) encPtr_nil hw hF ?_))
    go_at_call 33; refine (move_any true HO HR.out HO2.out HB.out hn'.out).mono ?_; rintro e w2 ⟨rfl, T1, F1, HO1, R1⟩
    rw [if_pos rfl, if_pos rfl, HM.out] at R1
    have HR1 := Lib.hid R1
    clear HO HR cm hF R1
    go_wp2_with (fail)
    go_loopg [] (kk1 ++ [x]).length (fun q wr => ∃ T F t2 k2 n2, Own w0 wr (T.ents ++ (mb, Mp n2 F) :: L) ∧ Hid (Rep T g mb F M t2 k2) ∧ Hid (Lr.settle M (kvs t2) (kvs k2) = Lr.settle M (kvs tt1) (kvs (kk1 ++ [x]))) ∧ k2.length = q ∧ n2 + q = n + 1 + (kk1 ++ [x]).length ∧ Hid (Bd (t2 ++ k2)))
    case atStart => exact ⟨T1, F1, tt1, kk1 ++ [x], n + 1, HO1, HR1, Lib.hid rfl, rfl, rfl, hB1⟩
    case round =>
      clear HO1 HR1 T1 F1
      obtain ⟨T1, F1, t2, k2, n2, HO, R2, hst, hq, hn2, B2⟩ := hrel
      have ch := R2.out.held
      have cr := R2.out.room
      obtain ⟨H, hH⟩ : ∃ H, sum (kvs k2) = H := ⟨_, rfl⟩
      rw [hH] at ch
      have HH := Lib.hid hH
      have HQ := Lib.hid hq
      have HN2 := Lib.hid hn2
      clear hH hq hn2
      by_cases hlt : M < H
      · have d : decide (M < H) = true := decide_eq_true hlt
        cases k2 with
        | nil => exfalso; have := HH.out; have := h0.out; simp [kvs, sum] at *; omega
        | cons y k3 =>
          have hst2 : Lr.settle M (kvs (t2 ++ [y])) (kvs k3) = Lr.settle M (kvs tt1) (kvs (kk1 ++ [x])) := by
            rw [← hst.out]
            show _ = Lr.settle M (kvs t2) (y.kv :: kvs k3)
            have hs : sum (y.kv :: kvs k3) = H := HH.out
            unfold Lr.settle
            rw [hs, if_pos hlt, kvs_app]; 
            cases k3 <;> rfl
          have HST := Lib.hid hst2
          have hyb : y.b ≠ g := by
            have := (nd_parts R2.out.nd).2.1
            exact this y (by simp)
          have h4 : T1.get g (6 + 4) = some (.pointer (some ⟨y.b, 0, none⟩)) := R2.out.rk.1
          have hu := (R2.out.ck y (by simp)).1
          have FS := fun w' (h : Own w0 w' (T1.ents ++ (mb, Mp n2 F1) :: L)) => first_some (o := 6) h hyb h4 hu
          have HFS := Lib.hid FS
          have B3 : Bd (t2 ++ [y] ++ k3) := by rw [List.append_assoc]; exact B2.out
          have HB3 := Lib.hid B3
          have hn3 := Lib.hid (show n2 < maxLen by have h1 := HN2.out; have h2 := hlen.out; unfold maxLen; omega)
          clear hst hst2 hyb h4 hu FS B3
          go_upto_region 5 with (fail)
          refine start_ (n := 9) (S := fun w' => w'.cell? ⟨g, 13, none⟩ = some (.int .i64 H) ∧ w'.cell? ⟨g, 0, none⟩ = some (.int .i64 M)) (ds := []) #[false, false, false, false, false, false, false, false, false] (by kernel_rfl) rfl rfl ⟨(HO.drew.tabCell ch), (HO.drew.tabCell cr)⟩ (fun hHeld => ?_)
          replace HO := HO.drew
          refine pure_ (i := 0) (N := some 17) (v := ?_) (a' := ?_) #[true, false, false, false, false, false, false, false, false] rfl rfl (by kernel_rfl) (fun _ _ _ h => h) (Or.inl ⟨by rfl, ?_⟩) ?_ ?_
          rotate_left
          · intro w'
            go_simp
            with_reducible rfl
          rotate_left
          · simp only [Act.put, List.setIfInBounds_toArray, List.set_cons_zero, List.set_cons_succ, i64_w, i32_w]
            rfl
          refine pure_ (i := 1) (N := some 18) (v := ?_) (a' := ?_) #[true, true, false, false, false, false, false, false, false] rfl rfl (by kernel_rfl) (fun _ _ _ h => h) (Or.inl ⟨by rfl, ?_⟩) ?_ ?_
          rotate_left
          · intro w'
            go_simp
            with_reducible rfl
          rotate_left
          · simp only [Act.put, List.setIfInBounds_toArray, List.set_cons_zero, List.set_cons_succ, i64_w, i32_w]
            rfl
          refine pure_ (i := 2) (N := some 19) (v := ?_) (a' := ?_) #[true, true, true, false, false, false, false, false, false] rfl rfl (by kernel_rfl) (fun _ _ _ h => h) (Or.inl ⟨by rfl, ?_⟩) ?_ ?_
          rotate_left
          · intro w'
            go_simp
            with_reducible rfl
          rotate_left
          · simp only [Act.put, List.setIfInBounds_toArray, List.set_cons_zero, List.set_cons_succ, i64_w, i32_w]
            rfl
          refine pure_ (i := 4) (N := some 21) (v := ?_) (a' := ?_) #[true, true, true, false, true, false, false, false, false] rfl rfl (by kernel_rfl) (fun _ _ _ h => h) (Or.inl ⟨by rfl, ?_⟩) ?_ ?_
          rotate_left
          · intro w'
            go_simp
            with_reducible rfl
          rotate_left
          · simp only [Act.put, List.setIfInBounds_toArray, List.set_cons_zero, List.set_cons_succ, i64_w, i32_w]
            rfl
          refine pure_ (i := 5) (N := some 22) (v := ?_) (a' := ?_) #[true, true, true, false, true, true, false, false, false] rfl rfl (by kernel_rfl) (fun _ _ _ h => h) (Or.inl ⟨by rfl, ?_⟩) ?_ ?_
          rotate_left
          · intro w'
            go_simp
            with_reducible rfl
          rotate_left
          · simp only [Act.put, List.setIfInBounds_toArray, List.set_cons_zero, List.set_cons_succ, i64_w, i32_w]
            rfl
          refine pure_ (i := 6) (N := some 23) (v := ?_) (a' := ?_) #[true, true, true, false, true, true, true, false, false] rfl rfl (by kernel_rfl) (fun _ _ _ h => h) (Or.inl ⟨by rfl, ?_⟩) ?_ ?_
          rotate_left
          · intro w'
            go_simp
            with_reducible rfl
          rotate_left
          · simp only [Act.put, List.setIfInBounds_toArray, List.set_cons_zero, List.set_cons_succ, i64_w, i32_w]
            rfl
          refine take_ (i := 3) (N := some 20) (v := ?_) (a' := ?_) #[true, true, true, true, true, true, true, false, false] rfl rfl (by kernel_rfl) (fun _ _ _ h => h) (Or.inl ⟨by rfl, ?_⟩) hHeld ?_ ?_
          rotate_left
          · rintro w' ⟨s0, s1⟩
            go_simp
            with_reducible rfl
          rotate_left
          · simp only [Act.put, List.setIfInBounds_toArray, List.set_cons_zero, List.set_cons_succ, i64_w, i32_w]
            rfl
          refine take_ (i := 7) (N := some 24) (v := ?_) (a' := ?_) #[true, true, true, true, true, true, true, true, false] rfl rfl (by kernel_rfl) (fun _ _ _ h => h) (Or.inl ⟨by rfl, ?_⟩) hHeld ?_ ?_
          rotate_left
          · rintro w' ⟨s0, s1⟩
            go_simp
            with_reducible rfl
          rotate_left
          · simp only [Act.put, List.setIfInBounds_toArray, List.set_cons_zero, List.set_cons_succ, i64_w, i32_w]
            rfl
          refine pure_ (i := 8) (N := some 25) (v := ?_) (a' := ?_) #[true, true, true, true, true, true, true, true, true] rfl rfl (by kernel_rfl) (fun _ _ _ h => h) (Or.inl ⟨by rfl, ?_⟩) ?_ ?_
          rotate_left
          · intro w'
            go_simp
            with_reducible rfl
          rotate_left
          · simp only [Act.put, List.setIfInBounds_toArray, List.set_cons_zero, List.set_cons_succ, i64_w, i32_w]
            rfl
          refine done_ (by kernel_rfl) ?_
          go_wp2_with (fail)
          go_at_call 34; refine (HFS.out _ HO).mono ?_; rintro e w3 ⟨rfl, HO1⟩
          clear HO
          go_wp2_with (fail)
          go_at_call 33; refine (move_any false HO1 R2.out (Out.kept [] k3 t2) B2.out hn3.out).mono ?_; rintro e w4 ⟨rfl, T3, F3, HO3, R3⟩
          rw [if_neg (by decide), if_neg (by decide)] at R3
          have HR3 := Lib.hid R3
          clear HO1 R3
          go_wp2_with (fail)
          go_roundg k3.length
          case measure => have := HQ.out; simp only [List.length_cons] at this; omega
          case rel =>
            refine ⟨T3, F3, t2 ++ [y], k3, n2 + 1, HO3, HR3, HST, rfl, ?_, HB3⟩
            have h1 := HN2.out
            have h2 := HQ.out
            simp only [List.length_cons] at h2
            omega
      · have d : decide (M < H) = false := decide_eq_false hlt
        have hst2 : Lr.settle M (kvs tt1) (kvs (kk1 ++ [x])) = (kvs t2, kvs k2) := by
          rw [← hst.out]
          cases k2 with
          | nil => rfl
          | cons y k3 =>
            show Lr.settle M (kvs t2) (y.kv :: kvs k3) = _
            have hs : sum (y.kv :: kvs k3) = H := HH.out
            unfold Lr.settle
            rw [hs, if_neg hlt]; rfl
        have HST := Lib.hid hst2
        clear hst hst2
        go_upto_region 5 with (fail)
        refine start_ (n := 9) (S := fun w' => w'.cell? ⟨g, 13, none⟩ = some (.int .i64 H) ∧ w'.cell? ⟨g, 0, none⟩ = some (.int .i64 M)) (ds := []) #[false, false, false, false, false, false, false, false, false] (by kernel_rfl) rfl rfl ⟨(HO.drew.tabCell ch), (HO.drew.tabCell cr)⟩ (fun hHeld => ?_)
        replace HO := HO.drew
        refine pure_ (i := 0) (N := some 17) (v := ?_) (a' := ?_) #[true, false, false, false, false, false, false, false, false] rfl rfl (by kernel_rfl) (fun _ _ _ h => h) (Or.inl ⟨by rfl, ?_⟩) ?_ ?_
        rotate_left
        · intro w'
          go_simp
          with_reducible rfl
        rotate_left
        · simp only [Act.put, List.setIfInBounds_toArray, List.set_cons_zero, List.set_cons_succ, i64_w, i32_w]
          rfl
        refine pure_ (i := 1) (N := some 18) (v := ?_) (a' := ?_) #[true, true, false, false, false, false, false, false, false] rfl rfl (by kernel_rfl) (fun _ _ _ h => h) (Or.inl ⟨by rfl, ?_⟩) ?_ ?_
        rotate_left
        · intro w'
          go_simp
          with_reducible rfl
        rotate_left
        · simp only [Act.put, List.setIfInBounds_toArray, List.set_cons_zero, List.set_cons_succ, i64_w, i32_w]
          rfl
        refine pure_ (i := 2) (N := some 19) (v := ?_) (a' := ?_) #[true, true, true, false, false, false, false, false, false] rfl rfl (by kernel_rfl) (fun _ _ _ h => h) (Or.inl ⟨by rfl, ?_⟩) ?_ ?_
        rotate_left
        · intro w'
          go_simp
          with_reducible rfl
        rotate_left
        · simp only [Act.put, List.setIfInBounds_toArray, List.set_cons_zero, List.set_cons_succ, i64_w, i32_w]
          rfl
        refine pure_ (i := 4) (N := some 21) (v := ?_) (a' := ?_) #[true, true, true, false, true, false, false, false, false] rfl rfl (by kernel_rfl) (fun _ _ _ h => h) (Or.inl ⟨by rfl, ?_⟩) ?_ ?_
        rotate_left
        · intro w'
          go_simp
          with_reducible rfl
        rotate_left
        · simp only [Act.put, List.setIfInBounds_toArray, List.set_cons_zero, List.set_cons_succ, i64_w, i32_w]
          rfl
        refine pure_ (i := 5) (N := some 22) (v := ?_) (a' := ?_) #[true, true, true, false, true, true, false, false, false] rfl rfl (by kernel_rfl) (fun _ _ _ h => h) (Or.inl ⟨by rfl, ?_⟩) ?_ ?_
        rotate_left
        · intro w'
          go_simp
          with_reducible rfl
        rotate_left
        · simp only [Act.put, List.setIfInBounds_toArray, List.set_cons_zero, List.set_cons_succ, i64_w, i32_w]
          rfl
        refine pure_ (i := 6) (N := some 23) (v := ?_) (a' := ?_) #[true, true, true, false, true, true, true, false, false] rfl rfl (by kernel_rfl) (fun _ _ _ h => h) (Or.inl ⟨by rfl, ?_⟩) ?_ ?_
        rotate_left
        · intro w'
          go_simp
          with_reducible rfl
        rotate_left
        · simp only [Act.put, List.setIfInBounds_toArray, List.set_cons_zero, List.set_cons_succ, i64_w, i32_w]
          rfl
        refine take_ (i := 3) (N := some 20) (v := ?_) (a' := ?_) #[true, true, true, true, true, true, true, false, false] rfl rfl (by kernel_rfl) (fun _ _ _ h => h) (Or.inl ⟨by rfl, ?_⟩) hHeld ?_ ?_
        rotate_left
        · rintro w' ⟨s0, s1⟩
          go_simp
          with_reducible rfl
        rotate_left
        · simp only [Act.put, List.setIfInBounds_toArray, List.set_cons_zero, List.set_cons_succ, i64_w, i32_w]
          rfl
        refine take_ (i := 7) (N := some 24) (v := ?_) (a' := ?_) #[true, true, true, true, true, true, true, true, false] rfl rfl (by kernel_rfl) (fun _ _ _ h => h) (Or.inl ⟨by rfl, ?_⟩) hHeld ?_ ?_
        rotate_left
        · rintro w' ⟨s0, s1⟩
          go_simp
          with_reducible rfl
        rotate_left
        · simp only [Act.put, List.setIfInBounds_toArray, List.set_cons_zero, List.set_cons_succ, i64_w, i32_w]
          rfl
        refine pure_ (i := 8) (N := some 25) (v := ?_) (a' := ?_) #[true, true, true, true, true, true, true, true, true] rfl rfl (by kernel_rfl) (fun _ _ _ h => h) (Or.inl ⟨by rfl, ?_⟩) ?_ ?_
        rotate_left
        · intro w'
          go_simp
          with_reducible rfl
        rotate_left
        · simp only [Act.put, List.setIfInBounds_toArray, List.set_cons_zero, List.set_cons_succ, i64_w, i32_w]
          rfl
        refine done_ (by kernel_rfl) ?_
        go_wp2_with (fail)
        go_ret
        refine ⟨rfl, ?_⟩
        rw [HST.out]
        have hle : n2 ≤ n + c + 5 := by have h1 := HN2.out; have h2 := hlen.out; omega
        exact Lw.mono (n := n2) ⟨T1, mb, F1, t2, k2, HO, by rw [HM1.out]; exact R2.out, rfl, rfl⟩ hle
end Go.Proofs.Ytkkgajlddlnghaa

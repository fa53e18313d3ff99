/- The law on bits turned. -/
import Derived.Test.YtaidfofcijnbeaaSk
import Derived.Test.YtaidfofcijnbeaaWLast
namespace Go.Proofs.Ytaidfofcijnbeaa
set_option linter.unusedVariables false
set_option linter.unusedSimpArgs false
set_option linter.unnecessarySimpa false
open Go.RowKit Go.Proofs.YtaidfofcijnbeaaW.PrintLast
namespace Crc
theorem flip_val (l : List (BitVec 8)) (k : Nat) (hk : k / 8 < l.length) : ∃ x y z : Int, (bys l)[k / 8]? = some (.int .u8 x) ∧ 0 ≤ x ∧ x < 256 ∧ (2 : Int) ^ (k % 8) % 256 = y ∧ bits .xor .u8 x y = z ∧ 0 ≤ z ∧ z < 256 ∧ (bys l).set (k / 8) (.int .u8 z) = bys (flip l k) := by
  obtain ⟨b, hb⟩ : ∃ b, l[k / 8]? = some b := ⟨_, List.getElem?_eq_getElem hk⟩
  have hbl := b.isLt
  have hp : (2 : Nat) ^ (k % 8) < 256 := by
    have : (2 : Nat) ^ (k % 8) < 2 ^ 8 := Nat.pow_lt_pow_right (by omega) (by omega)
    exact this
  have hy : (2 : Int) ^ (k % 8) % 256 = ((2 ^ (k % 8) : Nat) : Int) := by
    have h3 : (2 : Int) ^ (k % 8) = ((2 ^ (k % 8) : Nat) : Int) := (Int.natCast_pow 2 _).symm
    rw [h3]
    obtain ⟨Y, hY⟩ : ∃ Y, (2 : Nat) ^ (k % 8) = Y := ⟨_, rfl⟩
    rw [hY] at hp ⊢
    omega
  have hz : bits .xor .u8 (b.toNat : Int) ((2 ^ (k % 8) : Nat) : Int) = (((b ^^^ (1#8 <<< (k % 8))).toNat : Nat) : Int) := by
    rw [u8_xor_nat _ _ hbl hp, BitVec.toNat_xor, BitVec.toNat_shiftLeft]
    congr 2
    rw [Nat.shiftLeft_eq]
    simp
    omega
  have hzl := (b ^^^ (1#8 <<< (k % 8))).isLt
  refine ⟨_, _, _, by simp [bys, hb], by omega, by omega, hy, hz, by omega, by omega, ?_⟩
  unfold flip bys
  rw [List.map_set]
  have hg : l.getD (k / 8) 0#8 = b := by rw [List.getD_eq_getElem?_getD, hb]; rfl
  rw [hg]
end Crc
set_option maxRecDepth 20000 in
set_option maxHeartbeats 8000000 in
theorem SumBursts_any {w : World} {v : Value} {l : List (BitVec 8)} (at_ turn : Int) (hl : Bs w v l) (a0 : 0 ≤ at_) (a1 : at_ < 65536) (t0 : 0 ≤ turn) (t1 : turn < 4294967296) :
    Calls Try.prog 6 #[v, .int .u16 at_, .int .u32 turn] w fun e w' => e = .returned (.bool true) ∧ Below w.heap.size w w' := by
  have HO := Own.nil w
  have HB := Lib.hid hl
  obtain ⟨ao, cap, rfl, hc1, hc2, _⟩ := hl
  obtain ⟨n, hn⟩ : ∃ n, l.length = n := ⟨_, rfl⟩
  have HB2 := HB.out
  rw [hn] at hc1 HB2 ⊢
  clear HB
  have HB := Lib.hid HB2
  have HN := Lib.hid hn
  clear HB2 hn
  rcases Nat.lt_or_ge n 4 with hj | hj
  · have hd : decide ((n : Int) < 4) = true := decide_eq_true (by omega)
    go_enter Try.func6, Try.ntmps6
    go_wp2_with (first | (go_at_call 8; (with_reducible refine (wakes_any HO).mono ?_); rintro e w2 ⟨rfl, HO1⟩; clear HO; have HO := HO1; clear HO1))
    go_ret
    exact ⟨rfl, HO.below⟩
  have hd : decide ((n : Int) < 4) = false := decide_eq_false (by omega)
  rcases Nat.lt_or_ge 1000 n with hj2 | hj2
  · have hd2 : decide ((1000 : Int) < (n : Int)) = true := decide_eq_true (by omega)
    go_enter Try.func6, Try.ntmps6
    go_wp2_with (first | (go_at_call 8; (with_reducible refine (wakes_any HO).mono ?_); rintro e w2 ⟨rfl, HO1⟩; clear HO; have HO := HO1; clear HO1))
    go_ret
    exact ⟨rfl, HO.below⟩
  have hd2 : decide ((1000 : Int) < (n : Int)) = false := decide_eq_false (by omega)
  by_cases htz : turn = 0
  · have hd3 : (turn == 0) = true := by simp [htz]
    go_enter Try.func6, Try.ntmps6
    clear htz
    go_wp2_with (first | (go_at_call 8; (with_reducible refine (wakes_any HO).mono ?_); rintro e w2 ⟨rfl, HO1⟩; clear HO; have HO := HO1; clear HO1))
    go_ret
    exact ⟨rfl, HO.below⟩
  have hd3 : (turn == 0) = false := by simp [htz]
  obtain ⟨V, hV⟩ : ∃ V : BitVec 32, turn = (V.toNat : Int) := u32_bv turn t0 t1
  have hVn : V ≠ 0#32 := by
    rintro rfl
    exact htz hV
  have HV := Lib.hid hV
  have HVn := Lib.hid hVn
  have hw0 : IntKind.i64.wrap at_ = at_ := IntWalk.i64_in _ (by omega)
  have hw1 : IntKind.i64.wrap (8 * (n : Int)) = 8 * (n : Int) := IntWalk.i64_in _ (by omega)
  have hw2 : IntKind.i64.wrap (8 * (n : Int) - 31) = 8 * (n : Int) - 31 := IntWalk.i64_in _ (by omega)
  have hq0 : (8 * (n : Int) - 31 == 0) = false := by simp; omega
  obtain ⟨p, hp⟩ : ∃ p : Nat, at_ % (8 * (n : Int) - 31) = (p : Int) := ⟨(at_ % (8 * (n : Int) - 31)).toNat, (Int.toNat_of_nonneg (Int.emod_nonneg _ (by omega))).symm⟩
  have hpl : (p : Int) < 8 * (n : Int) - 31 := by rw [← hp]; exact Int.emod_lt_of_pos _ (by omega)
  have hm : at_.tmod (8 * (n : Int) - 31) = (p : Int) := by rw [Int.tmod_eq_emod_of_nonneg a0, hp]
  have hmx : maxLen = 9223372036854775807 := rfl
  have hm1 := Lib.hid (show 0 + n ≤ maxLen by omega)
  clear hmx hV hVn htz hp
  have hpn : p + 32 ≤ 8 * n := by omega
  go_enter Try.func6, Try.ntmps6
  go_wp2_with (first | (go_at_call 8; (with_reducible refine (wakes_any HO).mono ?_); rintro e w2 ⟨rfl, HO1⟩; clear HO; have HO := HO1; clear HO1) | (refine li_bslice 22 1 rfl rfl (by go_simp; rfl) rfl (by decide) HO ?_; clear HO; intro gn w1 HO) | (refine li_append_any 0 el22 rfl rfl (n := 0) rfl HO rfl rfl rfl (bs_news (HO.bs HB.out)).1 (bs_news (HO.bs HB.out)).2 (bys_one l) hm1.out (by omega) ?_; clear HO; intro gq cq wq hcq HO; simp only [List.nil_append, List.eraseIdx_cons_zero] at HO))
  go_loopg [35] 32 (fun k x wr => ∃ (j : Nat), x = .int .i64 (j : Int) ∧ j ≤ 32 ∧ k = 32 - j ∧ Own w wr [(gq, RowP 5 1 cq (Crc.bys (Crc.turns l p V j)))])
  case atStart => exact ⟨0, by rfl, by omega, by omega, HO⟩
  case round =>
    clear HO
    obtain ⟨j, rfl, j1, hk, HO⟩ := hrel
    rcases Nat.lt_or_ge j 32 with hj3 | hj3
    · have he1 : decide ((j : Int) < 32) = true := decide_eq_true (by omega)
      have he2 : IntKind.i64.wrap ((j : Int) + 1) = ((j + 1 : Nat) : Int) := by rw [IntWalk.i64_in _ (by omega)]; rfl
      have hb0 : (0 : Int) ≤ (j : Int) := by omega
      have hb1 : (j : Int) < 32 := by omega
      obtain ⟨q, q0, q1, hq, hask⟩ := Crc.ask_any V j hj3
      rw [← HV.out] at hq
      have hst : Crc.turns l p V (j + 1) = if V.getLsbD j then Crc.flip (Crc.turns l p V j) (p + j) else Crc.turns l p V j := rfl
      have htl : (Crc.turns l p V j).length = n := by rw [Crc.turns_len, HN.out]
      obtain ⟨T, hT⟩ : ∃ T, Crc.turns l p V j = T := ⟨_, rfl⟩
      rw [hT] at hst htl HO
      rcases Bool.eq_false_or_eq_true (V.getLsbD j) with hb | hb
      · rw [hb] at hst hask
        have hask2 : bits .and .u32 q 1 = 1 := hask
        have hst2 : Crc.turns l p V (j + 1) = Crc.flip T (p + j) := hst
        have he3 : IntKind.i64.wrap ((p : Int) + (j : Int)) = ((p + j : Nat) : Int) := by rw [IntWalk.i64_in _ (by omega)]; rfl
        obtain ⟨K, hK⟩ : ∃ K, p + j = K := ⟨_, rfl⟩
        rw [hK] at hst2 he3
        have hKn : K / 8 < n := by omega
        obtain ⟨x, y, z, f1, f2, f3, f4, f5, f6, f7, f8⟩ := Crc.flip_val T K (by omega)
        have g1 : (K : Int).tdiv 8 = ((K / 8 : Nat) : Int) := by rw [Int.tdiv_eq_ediv_of_nonneg (by omega)]; rfl
        have g2 : (K : Int).tmod 8 = ((K % 8 : Nat) : Int) := by rw [Int.tmod_eq_emod_of_nonneg (by omega)]; rfl
        have g1' : (K : Int) / 8 = ((K / 8 : Nat) : Int) := rfl
        have g2' : (K : Int) % 8 = ((K % 8 : Nat) : Int) := rfl
        obtain ⟨I, hI⟩ : ∃ I, K / 8 = I := ⟨_, rfl⟩
        obtain ⟨M, hM⟩ : ∃ M, K % 8 = M := ⟨_, rfl⟩
        have hM8 : M < 8 := by omega
        rw [hI] at f1 f8 g1 g1' hKn
        rw [hM] at f4 g2 g2'
        have h1 : IntKind.i64.wrap (I : Int) = (I : Int) := IntWalk.i64_in _ (by omega)
        have h2 : IntKind.i64.wrap (M : Int) = (M : Int) := IntWalk.i64_in _ (by omega)
        have i0 : (0 : Int) ≤ (I : Int) := by omega
        have i1 : (I : Int) < (n : Int) := by omega
        have i2 : (0 : Int) ≤ (M : Int) := by omega
        have i3 : (M : Int) < 8 := by omega
        have hlh : I < (Crc.bys T).length := by rw [Crc.bys_len, htl]; omega
        have F8 := Lib.hid f8
        have HS := Lib.hid hst2
        clear hst hst2 hask hb f8 hK hI hM hT htl
        go_wp2_with (fail)
        refine start_ (n := 11) (S := fun w' => w'.cell? ⟨gq, I, none⟩ = some (.int .u8 x)) (ds := [10]) #[false, false, false, false, false, false, false, false, false, false, false] (by kernel_rfl) rfl rfl ((HO.drew.rowCell 0 rfl I f1)) (fun hHeld => ?_)
        replace HO := HO.drew
        refine pure_ (i := 0) (N := some 46) (v := ?_) (a' := ?_) #[true, false, false, false, false, false, false, false, false, false, false] rfl rfl (by kernel_rfl) (fun _ _ _ h => h) (Or.inl ⟨by rfl, ?_⟩) ?_ ?_
        rotate_left
        · intro w'
          go_simp
          with_reducible rfl
        rotate_left
        · simp only [Act.put, List.setIfInBounds_toArray, List.set_cons_zero, List.set_cons_succ, i64_w, i32_w]
          rfl
        refine pure_ (i := 1) (N := some 47) (v := ?_) (a' := ?_) #[true, true, false, false, false, false, false, false, false, false, false] rfl rfl (by kernel_rfl) (fun _ _ _ h => h) (Or.inl ⟨by rfl, ?_⟩) ?_ ?_
        rotate_left
        · intro w'
          go_simp
          with_reducible rfl
        rotate_left
        · simp only [Act.put, List.setIfInBounds_toArray, List.set_cons_zero, List.set_cons_succ, i64_w, i32_w]
          rfl
        refine pure_ (i := 2) (N := some 48) (v := ?_) (a' := ?_) #[true, true, true, false, false, false, false, false, false, false, false] rfl rfl (by kernel_rfl) (fun _ _ _ h => h) (Or.inl ⟨by rfl, ?_⟩) ?_ ?_
        rotate_left
        · intro w'
          go_simp
          with_reducible rfl
        rotate_left
        · simp only [Act.put, List.setIfInBounds_toArray, List.set_cons_zero, List.set_cons_succ, i64_w, i32_w]
          rfl
        refine pure_ (i := 3) (N := some 49) (v := ?_) (a' := ?_) #[true, true, true, true, false, false, false, false, false, false, false] rfl rfl (by kernel_rfl) (fun _ _ _ h => h) (Or.inl ⟨by rfl, ?_⟩) ?_ ?_
        rotate_left
        · intro w'
          go_simp
          with_reducible rfl
        rotate_left
        · simp only [Act.put, List.setIfInBounds_toArray, List.set_cons_zero, List.set_cons_succ, i64_w, i32_w]
          rfl
        refine pure_ (i := 5) (N := some 51) (v := ?_) (a' := ?_) #[true, true, true, true, false, true, false, false, false, false, false] rfl rfl (by kernel_rfl) (fun _ _ _ h => h) (Or.inl ⟨by rfl, ?_⟩) ?_ ?_
        rotate_left
        · intro w'
          go_simp
          with_reducible rfl
        rotate_left
        · simp only [Act.put, List.setIfInBounds_toArray, List.set_cons_zero, List.set_cons_succ, i64_w, i32_w]
          rfl
        refine pure_ (i := 6) (N := some 52) (v := ?_) (a' := ?_) #[true, true, true, true, false, true, true, false, false, false, false] rfl rfl (by kernel_rfl) (fun _ _ _ h => h) (Or.inl ⟨by rfl, ?_⟩) ?_ ?_
        rotate_left
        · intro w'
          go_simp
          with_reducible rfl
        rotate_left
        · simp only [Act.put, List.setIfInBounds_toArray, List.set_cons_zero, List.set_cons_succ, i64_w, i32_w]
          rfl
        refine pure_ (i := 7) (N := some 53) (v := ?_) (a' := ?_) #[true, true, true, true, false, true, true, true, false, false, false] rfl rfl (by kernel_rfl) (fun _ _ _ h => h) (Or.inl ⟨by rfl, ?_⟩) ?_ ?_
        rotate_left
        · intro w'
          go_simp
          with_reducible rfl
        rotate_left
        · simp only [Act.put, List.setIfInBounds_toArray, List.set_cons_zero, List.set_cons_succ, i64_w, i32_w]
          rfl
        refine take_ (i := 4) (N := some 50) (v := ?_) (a' := ?_) #[true, true, true, true, true, true, true, true, false, false, false] rfl rfl (by kernel_rfl) (fun _ _ _ h => h) (Or.inl ⟨by rfl, ?_⟩) hHeld ?_ ?_
        rotate_left
        · intro w' s0
          go_simp
          with_reducible rfl
        rotate_left
        · simp only [Act.put, List.setIfInBounds_toArray, List.set_cons_zero, List.set_cons_succ, i64_w, i32_w]
          rfl
        refine pure_ (i := 8) (N := some 54) (v := ?_) (a' := ?_) #[true, true, true, true, true, true, true, true, true, false, false] rfl rfl (by kernel_rfl) (fun _ _ _ h => h) (Or.inl ⟨by rfl, ?_⟩) ?_ ?_
        rotate_left
        · intro w'
          go_simp
          with_reducible rfl
        rotate_left
        · simp only [Act.put, List.setIfInBounds_toArray, List.set_cons_zero, List.set_cons_succ, i64_w, i32_w]
          rfl
        refine pure_ (i := 9) (N := some 55) (v := ?_) (a' := ?_) #[true, true, true, true, true, true, true, true, true, true, false] rfl rfl (by kernel_rfl) (fun _ _ _ h => h) (Or.inl ⟨by rfl, ?_⟩) ?_ ?_
        rotate_left
        · intro w'
          go_simp
          with_reducible rfl
        rotate_left
        · simp only [Act.put, List.setIfInBounds_toArray, List.set_cons_zero, List.set_cons_succ, i64_w, i32_w]
          rfl
        refine last_ (i := 10) (N := none) #[true, true, true, true, true, true, true, true, true, true, true] rfl rfl (by kernel_rfl) (by decide) (fun K hK => ?_)
        refine st_storeRowInt 0 rfl rfl rfl (off := I) rfl HO rfl rfl hlh (by kernel_rfl) ?_
        clear HO
        intro ws HO
        simp only [List.set_cons_zero, List.set_cons_succ] at HO
        refine hK.out _ _ ?_
        clear hK K
        refine done_ (by kernel_rfl) ?_
        have f4' : IntKind.u8.wrap (2 ^ M) = y := by rw [IntKind.wrap_u8']; exact f4
        rw [f4', f5, F8.out] at HO
        go_wp2_with (fail)
        go_roundg (32 - (j + 1))
        case measure => omega
        case rel => exact ⟨j + 1, rfl, by omega, rfl, by rw [HS.out]; exact HO⟩
      · rw [hb] at hst hask
        have hask2 : bits .and .u32 q 1 = 0 := hask
        have hst2 : Crc.turns l p V (j + 1) = T := hst
        have HS := Lib.hid hst2
        clear hst hst2 hask hb hT htl
        go_wp2_with (fail)
        go_roundg (32 - (j + 1))
        case measure => omega
        case rel => exact ⟨j + 1, rfl, by omega, rfl, by rw [HS.out]; exact HO⟩
    · obtain rfl : j = 32 := by omega
      have hne := Crc.turns_other l p V (by rw [HN.out]; exact hpn) HVn.out
      have hln : (Crc.turns l p V 32).length = n := by rw [Crc.turns_len, HN.out]
      obtain ⟨T, hT⟩ : ∃ T, Crc.turns l p V 32 = T := ⟨_, rfl⟩
      rw [hT] at hne hln HO
      obtain ⟨A, hA⟩ : ∃ A, Crc.crc T = A := ⟨_, rfl⟩
      obtain ⟨B, hB⟩ : ∃ B, Crc.crc l = B := ⟨_, rfl⟩
      rw [hA, hB] at hne
      have hne2 : ((A.toNat : Int) != (B.toNat : Int)) = true := by
        simp
        intro h
        exact hne (BitVec.eq_of_toNat_eq (by omega))
      have HL := Lib.hid hln
      have HA := Lib.hid hA
      have HB2 := Lib.hid hB
      obtain ⟨a, ha⟩ : ∃ a : Int, (A.toNat : Int) = a := ⟨_, rfl⟩
      obtain ⟨b, hb⟩ : ∃ b : Int, (B.toNat : Int) = b := ⟨_, rfl⟩
      rw [ha, hb] at hne2
      have Ha := Lib.hid (show Crc.vi A = .int .u32 a by unfold Crc.vi; rw [ha])
      have Hb := Lib.hid (show Crc.vi B = .int .u32 b by unfold Crc.vi; rw [hb])
      clear hln hT hA hB hne ha hb
      go_wp2_with (first | (go_at_call 9; (with_reducible refine (Of_any (Bs_row 0 HO rfl HL.out)).mono ?_); rw [HA.out, Ha.out]; rintro e w2 ⟨rfl, rfl⟩) | (go_at_call 9; (with_reducible refine (Of_any (HO.bs HB.out)).mono ?_); rw [HB2.out, Hb.out]; rintro e w2 ⟨rfl, rfl⟩))
      go_ret
      exact ⟨rfl, HO.below⟩
end Go.Proofs.Ytaidfofcijnbeaa

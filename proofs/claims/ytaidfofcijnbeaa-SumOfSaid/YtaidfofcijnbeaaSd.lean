/- The rows of a nought bit, and twice as many. -/
import Derived.Test.YtaidfofcijnbeaaSc
namespace Go.Proofs.Ytaidfofcijnbeaa
set_option linter.unusedVariables false
set_option linter.unusedSimpArgs false
set_option linter.unnecessarySimpa false
open Go.RowKit
namespace Crc
theorem one_nat (j : Nat) (h : j < 32) : ((one j).toNat : Int) = 2 ^ j := by
  unfold one
  rw [BitVec.toNat_shiftLeft]
  have h2 : (1#32).toNat <<< j = 2 ^ j := by rw [Nat.shiftLeft_eq]; simp
  rw [h2]
  have h3 : 2 ^ j < 2 ^ 32 := Nat.pow_lt_pow_right (by omega) h
  rw [Nat.mod_eq_of_lt h3]
  exact Int.natCast_pow 2 j
theorem part_first : (part 1 0).set 0 (.int .u32 3988292384) = part 1 1 := part_set 1 0 _ rfl (by omega)
theorem part_next (j : Nat) (h : j + 1 < 32) : ∃ O : Int, 0 ≤ O ∧ O < 4294967296 ∧ (2 : Int) ^ j % 4294967296 = O ∧ (part 1 (j + 1)).set (j + 1) (.int .u32 O) = part 1 (j + 1 + 1) := by
  have e := one_nat j (by omega)
  have hl := (one j).isLt
  have e2 : Tn 1 (one (j + 1)) = one j := one_T j h
  refine ⟨(one j).toNat, by omega, by omega, by rw [← e]; omega, ?_⟩
  exact part_set 1 (j + 1) _ (by rw [e2]) h
theorem rowv_one (n : Nat) : (rowv n).all (·.oneCell') = true := by
  simp [rowv, Value.oneCell']
end Crc
set_option maxRecDepth 20000 in
set_option maxHeartbeats 8000000 in
theorem twice_any {w0 w : World} {L : List Ent} {g : Nat} (n : Nat) (HO : Own w0 w ((g, CellsP 41 (Crc.rowv n)) :: L)) :
    Calls Try.prog 21 #[.pointer (some ⟨g, 0, none⟩)] w fun e w' => e = .returned (.agg ⟨Crc.rowv (n + n)⟩) ∧ Own w0 w' ((g, CellsP 41 (Crc.rowv n)) :: L) := by
  have hz := Crc.part_zero (n + n)
  go_enter Try.func21, Try.ntmps21
  go_wp2_with (first | (refine li_alloc (t := 41) rfl rfl (z := .agg #[.int .u32 0, .int .u32 0, .int .u32 0, .int .u32 0, .int .u32 0, .int .u32 0, .int .u32 0, .int .u32 0, .int .u32 0, .int .u32 0, .int .u32 0, .int .u32 0, .int .u32 0, .int .u32 0, .int .u32 0, .int .u32 0, .int .u32 0, .int .u32 0, .int .u32 0, .int .u32 0, .int .u32 0, .int .u32 0, .int .u32 0, .int .u32 0, .int .u32 0, .int .u32 0, .int .u32 0, .int .u32 0, .int .u32 0, .int .u32 0, .int .u32 0, .int .u32 0]) (cs := [.int .u32 0, .int .u32 0, .int .u32 0, .int .u32 0, .int .u32 0, .int .u32 0, .int .u32 0, .int .u32 0, .int .u32 0, .int .u32 0, .int .u32 0, .int .u32 0, .int .u32 0, .int .u32 0, .int .u32 0, .int .u32 0, .int .u32 0, .int .u32 0, .int .u32 0, .int .u32 0, .int .u32 0, .int .u32 0, .int .u32 0, .int .u32 0, .int .u32 0, .int .u32 0, .int .u32 0, .int .u32 0, .int .u32 0, .int .u32 0, .int .u32 0, .int .u32 0]) (by kernel_rfl) rfl HO ?_; clear HO; (first | (have h_ : gh = gh := rfl; clear h_; intro gi wi HO) | (have h_ : gg = gg := rfl; clear h_; intro gh wh HO) | (have h_ : gf = gf := rfl; clear h_; intro gg wg HO) | (have h_ : ge = ge := rfl; clear h_; intro gf wf HO) | (have h_ : gd = gd := rfl; clear h_; intro ge we HO) | (have h_ : gc = gc := rfl; clear h_; intro gd wd HO) | (have h_ : gb = gb := rfl; clear h_; intro gc wc HO) | (have h_ : ga = ga := rfl; clear h_; intro gb wb HO) | intro ga wa HO)) | ((with_reducible refine gate_load 23 rfl ?_); first | (refine li_load 0 23 rfl rfl rfl HO rfl rfl (by kernel_rfl) ?_) | (refine li_load 1 23 rfl rfl rfl HO rfl rfl (by kernel_rfl) ?_)) | ((with_reducible refine gate_store 23 rfl ?_); first | (refine li_storeInt 0 23 rfl rfl rfl rfl HO rfl rfl (by simp) (by kernel_rfl) ?_; clear HO; intro ws HO; (try simp only [List.set_cons_zero, List.set_cons_succ] at HO)) | (refine li_storeInt 1 23 rfl rfl rfl rfl HO rfl rfl (by simp) (by kernel_rfl) ?_; clear HO; intro ws HO; (try simp only [List.set_cons_zero, List.set_cons_succ] at HO))) | ((with_reducible refine gate_load 41 rfl ?_); first | (refine li_loadWhole 0 41 32 rfl rfl rfl HO rfl rfl (by kernel_rfl) (by kernel_rfl) (by kernel_rfl) ?_) | (refine li_loadWhole 1 41 32 rfl rfl rfl HO rfl rfl (by kernel_rfl) (by kernel_rfl) (by kernel_rfl) ?_)) | ((with_reducible refine gate_store 41 rfl ?_); first | (refine li_storeAgg 0 41 rfl rfl rfl rfl HO rfl rfl rfl rfl (by kernel_rfl) ?_; clear HO; intro ws HO; (try simp only [List.set_cons_zero, List.set_cons_succ] at HO)) | (refine li_storeAgg 1 41 rfl rfl rfl rfl HO rfl rfl rfl rfl (by kernel_rfl) ?_; clear HO; intro ws HO; (try simp only [List.set_cons_zero, List.set_cons_succ] at HO))))
  go_loopg [5] 32 (fun k x wr => ∃ j : Nat, x = .int .i64 (j : Int) ∧ j ≤ 32 ∧ k = 32 - j ∧ Own w0 wr ((gb, CellsP 41 (Crc.part (n + n) j)) :: (ga, CellsP 41 (List.replicate 32 (.int .u32 0))) :: (g, CellsP 41 (Crc.rowv n)) :: L))
  case atStart => exact ⟨0, by rfl, by omega, by omega, by rw [hz]; exact HO⟩
  case round =>
    clear HO
    obtain ⟨j, rfl, j1, hk, HO⟩ := hrel
    rcases Nat.lt_or_ge j 32 with hj | hj
    · have hd : decide ((j : Int) < 32) = true := decide_eq_true (by omega)
      have hw1 : IntKind.i64.wrap ((j : Int) + 1) = ((j + 1 : Nat) : Int) := by rw [IntWalk.i64_in _ (by omega)]; rfl
      have hb0 : (0 : Int) ≤ (j : Int) := by omega
      have hb1 : (j : Int) < 32 := by omega
      have hget := Lib.hid (Crc.rowv_get n j hj)
      have htw := Crc.row_twice n j
      rw [Crc.sums_Tn] at htw
      have HT := Lib.hid htw
      have hl := Crc.part_len (n + n) j
      clear htw hz
      obtain ⟨O, hO⟩ : ∃ O, Crc.Tn n (Crc.one j) = O := ⟨_, rfl⟩
      rw [hO] at hget HT
      have hset : ∀ x : BitVec 32, x = Crc.Tn n O → (Crc.part (n + n) j).set j (Crc.vi x) = Crc.part (n + n) (j + 1) := fun x hx => Crc.part_succ (n + n) j (hx.trans HT.out) hj
      obtain ⟨M, hM⟩ : ∃ M, Crc.Tn n O = M := ⟨_, rfl⟩
      have hset2 := Lib.hid (hset M hM.symm)
      clear hset
      have HO1 := HO.front 2 rfl
      simp only [List.eraseIdx_cons_succ, List.eraseIdx_cons_zero] at HO1
      go_wp2_with (first | (refine li_load 2 23 rfl rfl (off := j) rfl HO rfl hget.out (by kernel_rfl) ?_) | (go_at_call 20; refine (times_any n O HO1).mono ?_; rintro e w2 ⟨rfl, rfl⟩) | (refine li_storeInt 0 23 rfl rfl rfl (off := j) rfl HO rfl rfl (by omega) (by kernel_rfl) ?_; clear HO; intro ws HO; simp only [List.set_cons_zero] at HO))
      have HO2 := HO
      erw [hset2.out] at HO2
      clear HO; have HO := HO2; clear HO2
      go_roundg (32 - (j + 1))
      case measure => omega
      case rel => exact ⟨j + 1, rfl, by omega, rfl, HO⟩
    · obtain rfl : j = 32 := by omega
      rw [Crc.part_all] at HO
      have hl := Crc.rowv_len (n + n)
      have ho := Crc.rowv_one (n + n)
      obtain ⟨R, hR⟩ : ∃ R, Crc.rowv (n + n) = R := ⟨_, rfl⟩
      rw [hR] at HO hl ho
      have HR := Lib.hid hR
      clear hz hR
      go_wp2_with (first | (refine li_loadWhole 0 41 32 rfl rfl rfl HO rfl hl (by kernel_rfl) (by kernel_rfl) (by kernel_rfl) ?_) | (refine li_storeAgg 1 41 rfl rfl rfl rfl HO rfl rfl ho (by rw [hl]; rfl) (by rw [hl]; kernel_rfl) ?_; clear HO; intro ws HO; simp only [List.set_cons_zero, List.set_cons_succ] at HO))
      refine bodyPost_ret (v := .agg ⟨R⟩) ?_ rfl ⟨by rw [HR.out], HO.sub (.cons _ (.cons _ (List.Sublist.refl _)))⟩
      simp [results, Try.results21, asAddr, Act.put, HO.loadWhole (P := Try.prog) 1 rfl 41 32 hl (by kernel_rfl) (by kernel_rfl) (by kernel_rfl)]
set_option maxRecDepth 20000 in
set_option maxHeartbeats 8000000 in
theorem bit_any {w0 w : World} {L : List Ent} (HO : Own w0 w L) :
    Calls Try.prog 19 #[] w fun e w' => e = .returned (.agg ⟨Crc.rowv 1⟩) ∧ Own w0 w' L := by
  have hz := Crc.part_zero 1
  have hf := Crc.part_first
  rw [hz] at hf
  have HF := Lib.hid hf
  clear hz hf
  go_enter Try.func19, Try.ntmps19
  go_wp2_with (first | (refine li_alloc (t := 41) rfl rfl (z := .agg #[.int .u32 0, .int .u32 0, .int .u32 0, .int .u32 0, .int .u32 0, .int .u32 0, .int .u32 0, .int .u32 0, .int .u32 0, .int .u32 0, .int .u32 0, .int .u32 0, .int .u32 0, .int .u32 0, .int .u32 0, .int .u32 0, .int .u32 0, .int .u32 0, .int .u32 0, .int .u32 0, .int .u32 0, .int .u32 0, .int .u32 0, .int .u32 0, .int .u32 0, .int .u32 0, .int .u32 0, .int .u32 0, .int .u32 0, .int .u32 0, .int .u32 0, .int .u32 0]) (cs := [.int .u32 0, .int .u32 0, .int .u32 0, .int .u32 0, .int .u32 0, .int .u32 0, .int .u32 0, .int .u32 0, .int .u32 0, .int .u32 0, .int .u32 0, .int .u32 0, .int .u32 0, .int .u32 0, .int .u32 0, .int .u32 0, .int .u32 0, .int .u32 0, .int .u32 0, .int .u32 0, .int .u32 0, .int .u32 0, .int .u32 0, .int .u32 0, .int .u32 0, .int .u32 0, .int .u32 0, .int .u32 0, .int .u32 0, .int .u32 0, .int .u32 0, .int .u32 0]) (by kernel_rfl) rfl HO ?_; clear HO; (first | (have h_ : gh = gh := rfl; clear h_; intro gi wi HO) | (have h_ : gg = gg := rfl; clear h_; intro gh wh HO) | (have h_ : gf = gf := rfl; clear h_; intro gg wg HO) | (have h_ : ge = ge := rfl; clear h_; intro gf wf HO) | (have h_ : gd = gd := rfl; clear h_; intro ge we HO) | (have h_ : gc = gc := rfl; clear h_; intro gd wd HO) | (have h_ : gb = gb := rfl; clear h_; intro gc wc HO) | (have h_ : ga = ga := rfl; clear h_; intro gb wb HO) | intro ga wa HO)) | ((with_reducible refine gate_store 23 rfl ?_); first | (refine li_storeInt 0 23 rfl rfl rfl rfl HO rfl rfl (by simp) (by kernel_rfl) ?_; clear HO; intro ws HO; (try simp only [List.set_cons_zero, List.set_cons_succ] at HO)) | (refine li_storeInt 1 23 rfl rfl rfl rfl HO rfl rfl (by simp) (by kernel_rfl) ?_; clear HO; intro ws HO; (try simp only [List.set_cons_zero, List.set_cons_succ] at HO))) | ((with_reducible refine gate_load 41 rfl ?_); first | (refine li_loadWhole 0 41 32 rfl rfl rfl HO rfl rfl (by kernel_rfl) (by kernel_rfl) (by kernel_rfl) ?_) | (refine li_loadWhole 1 41 32 rfl rfl rfl HO rfl rfl (by kernel_rfl) (by kernel_rfl) (by kernel_rfl) ?_)) | ((with_reducible refine gate_store 41 rfl ?_); first | (refine li_storeAgg 0 41 rfl rfl rfl rfl HO rfl rfl rfl rfl (by kernel_rfl) ?_; clear HO; intro ws HO; (try simp only [List.set_cons_zero, List.set_cons_succ] at HO)) | (refine li_storeAgg 1 41 rfl rfl rfl rfl HO rfl rfl rfl rfl (by kernel_rfl) ?_; clear HO; intro ws HO; (try simp only [List.set_cons_zero, List.set_cons_succ] at HO))))
  go_loopg [2] 31 (fun k x wr => ∃ j : Nat, x = .int .i64 ((j + 1 : Nat) : Int) ∧ j ≤ 31 ∧ k = 31 - j ∧ Own w0 wr ((gb, CellsP 41 (Crc.part 1 (j + 1))) :: (ga, CellsP 41 (List.replicate 32 (.int .u32 0))) :: L))
  case atStart => exact ⟨0, by rfl, by omega, by omega, by rw [← HF.out]; exact HO⟩
  case round =>
    clear HO
    obtain ⟨j, rfl, j1, hk, HO⟩ := hrel
    rcases Nat.lt_or_ge j 31 with hj | hj
    · have hd : decide (((j + 1 : Nat) : Int) < 32) = true := decide_eq_true (by omega)
      have hd2 : decide ((j : Int) + 1 < 32) = true := decide_eq_true (by omega)
      have hw1 : IntKind.i64.wrap (((j + 1 : Nat) : Int) + 1) = ((j + 1 + 1 : Nat) : Int) := by rw [IntWalk.i64_in _ (by omega)]; rfl
      have hw2 : IntKind.i64.wrap (((j + 1 : Nat) : Int) - 1) = (j : Int) := by rw [IntWalk.i64_in _ (by omega)]; omega
      have hb0 : (0 : Int) ≤ ((j + 1 : Nat) : Int) := by omega
      have hb1 : ((j + 1 : Nat) : Int) < 32 := by omega
      obtain ⟨O, o1, o2, o3, o4⟩ := Crc.part_next j (by omega)
      have hl := Crc.part_len 1 (j + 1)
      have HS := Lib.hid o4
      clear o4
      go_wp2_with (first | (refine li_storeInt 0 23 rfl rfl rfl (off := j + 1) rfl HO rfl rfl (by omega) (by kernel_rfl) ?_; clear HO; intro ws HO; simp only [List.set_cons_zero] at HO))
      rw [o3, HS.out] at HO
      go_roundg (31 - (j + 1))
      case measure => omega
      case rel => exact ⟨j + 1, rfl, by omega, rfl, HO⟩
    · obtain rfl : j = 31 := by omega
      rw [Crc.part_all] at HO
      have hl := Crc.rowv_len 1
      have ho := Crc.rowv_one 1
      obtain ⟨R, hR⟩ : ∃ R, Crc.rowv 1 = R := ⟨_, rfl⟩
      rw [hR] at HO hl ho
      have HR := Lib.hid hR
      clear hR
      go_wp2_with (first | (refine li_loadWhole 0 41 32 rfl rfl rfl HO rfl hl (by kernel_rfl) (by kernel_rfl) (by kernel_rfl) ?_) | (refine li_storeAgg 1 41 rfl rfl rfl rfl HO rfl rfl ho (by rw [hl]; rfl) (by rw [hl]; kernel_rfl) ?_; clear HO; intro ws HO; simp only [List.set_cons_zero, List.set_cons_succ] at HO))
      refine bodyPost_ret (v := .agg ⟨R⟩) ?_ rfl ⟨by rw [HR.out], HO.sub (.cons _ (.cons _ (List.Sublist.refl _)))⟩
      simp [results, Try.results19, asAddr, Act.put, HO.loadWhole (P := Try.prog) 1 rfl 41 32 hl (by kernel_rfl) (by kernel_rfl) (by kernel_rfl)]
end Go.Proofs.Ytaidfofcijnbeaa

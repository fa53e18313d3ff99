/- What a making is held within; what the law on one key alone computes. -/
import Derived.Test.YtdjcgfknlhijiaaSj
namespace Go.Proofs.Ytdjcgfknlhijiaa
set_option linter.unusedVariables false
set_option linter.unusedSimpArgs false
set_option linter.unnecessarySimpa false
open Go.RowKit Go.Proofs.YtdjcgfknlhijiaaW.PrintLast
def Sk.hw (b : Int) : Int := if 64 < b then b % 64 + 1 else b
abbrev mkl (a b c : Int) : List Value := [.int .i64 a, .int .i64 b, .int .i64 c]
theorem Sk.hw_le (b : Int) : Sk.hw b ≤ 64 := by unfold Sk.hw; split <;> omega
set_option maxHeartbeats 2000000 in
theorem held_any (a b c : Int) (w : World) : Calls Try.prog 10 #[.agg #[.int .i64 a, .int .i64 b, .int .i64 c]] w fun e w' => e = .returned (.agg ⟨mkl a (Sk.hw b) c⟩) ∧ Below w.heap.size w w' := by
  have HO := Own.nil w
  by_cases h : 64 < b
  · have e1 : Sk.hw b = b % 64 + 1 := by unfold Sk.hw; rw [if_pos h]
    have hd : decide (64 < b) = true := decide_eq_true h
    have h1 : b.tmod 64 = b % 64 := Int.tmod_eq_emod_of_nonneg (by omega)
    have h2 : IntKind.i64.wrap (b % 64 + 1) = b % 64 + 1 := IntWalk.i64_in _ (by omega)
    have H := Lib.hid e1
    clear e1
    go_enter Try.func10, Try.ntmps10
    go_wp2_with (first | (refine li_boxAgg 23 rfl rfl rfl HO ?_; clear HO; intro gb wb HO) | (refine li_alloc (t := 23) rfl rfl (z := .agg #[.int .i64 0, .int .i64 0, .int .i64 0]) (cs := [.int .i64 0, .int .i64 0, .int .i64 0]) (by kernel_rfl) rfl HO ?_; clear HO; intro ga wa HO) | ((with_reducible refine gate_load 3 rfl ?_); first | (refine li_load 0 3 rfl rfl rfl HO rfl rfl (by kernel_rfl) ?_) | (refine li_load 1 3 rfl rfl rfl HO rfl rfl (by kernel_rfl) ?_)) | ((with_reducible refine gate_store 3 rfl ?_); first | (refine li_storeInt 0 3 rfl rfl rfl rfl HO rfl rfl (by simp) (by kernel_rfl) ?_; clear HO; intro ws HO; (try simp only [List.set_cons_zero, List.set_cons_succ] at HO)) | (refine li_storeInt 1 3 rfl rfl rfl rfl HO rfl rfl (by simp) (by kernel_rfl) ?_; clear HO; intro ws HO; (try simp only [List.set_cons_zero, List.set_cons_succ] at HO))) | ((with_reducible refine gate_load 23 rfl ?_); first | (refine li_loadWhole 0 23 3 rfl rfl rfl HO rfl rfl (by kernel_rfl) (by kernel_rfl) (by kernel_rfl) ?_) | (refine li_loadWhole 1 23 3 rfl rfl rfl HO rfl rfl (by kernel_rfl) (by kernel_rfl) (by kernel_rfl) ?_)) | ((with_reducible refine gate_store 23 rfl ?_); first | (refine li_storeAgg 0 23 rfl rfl rfl rfl HO rfl rfl rfl rfl (by kernel_rfl) ?_; clear HO; intro ws HO; (try simp only [List.set_cons_zero, List.set_cons_succ] at HO)) | (refine li_storeAgg 1 23 rfl rfl rfl rfl HO rfl rfl rfl rfl (by kernel_rfl) ?_; clear HO; intro ws HO; (try simp only [List.set_cons_zero, List.set_cons_succ] at HO))))
    refine bodyPost_ret (v := .agg ⟨mkl a (b % 64 + 1) c⟩) ?_ rfl ⟨by rw [H.out], HO.below⟩
    simp [results, Try.results10, asAddr, Act.put, HO.loadWhole (P := Try.prog) 0 rfl 23 3 rfl (by kernel_rfl) (by kernel_rfl) (by kernel_rfl)]
  · have e1 : Sk.hw b = b := by unfold Sk.hw; rw [if_neg h]
    have hd : decide (64 < b) = false := decide_eq_false h
    have H := Lib.hid e1
    clear e1
    go_enter Try.func10, Try.ntmps10
    go_wp2_with (first | (refine li_boxAgg 23 rfl rfl rfl HO ?_; clear HO; intro gb wb HO) | (refine li_alloc (t := 23) rfl rfl (z := .agg #[.int .i64 0, .int .i64 0, .int .i64 0]) (cs := [.int .i64 0, .int .i64 0, .int .i64 0]) (by kernel_rfl) rfl HO ?_; clear HO; intro ga wa HO) | ((with_reducible refine gate_load 3 rfl ?_); first | (refine li_load 0 3 rfl rfl rfl HO rfl rfl (by kernel_rfl) ?_) | (refine li_load 1 3 rfl rfl rfl HO rfl rfl (by kernel_rfl) ?_)) | ((with_reducible refine gate_store 3 rfl ?_); first | (refine li_storeInt 0 3 rfl rfl rfl rfl HO rfl rfl (by simp) (by kernel_rfl) ?_; clear HO; intro ws HO; (try simp only [List.set_cons_zero, List.set_cons_succ] at HO)) | (refine li_storeInt 1 3 rfl rfl rfl rfl HO rfl rfl (by simp) (by kernel_rfl) ?_; clear HO; intro ws HO; (try simp only [List.set_cons_zero, List.set_cons_succ] at HO))) | ((with_reducible refine gate_load 23 rfl ?_); first | (refine li_loadWhole 0 23 3 rfl rfl rfl HO rfl rfl (by kernel_rfl) (by kernel_rfl) (by kernel_rfl) ?_) | (refine li_loadWhole 1 23 3 rfl rfl rfl HO rfl rfl (by kernel_rfl) (by kernel_rfl) (by kernel_rfl) ?_)) | ((with_reducible refine gate_store 23 rfl ?_); first | (refine li_storeAgg 0 23 rfl rfl rfl rfl HO rfl rfl rfl rfl (by kernel_rfl) ?_; clear HO; intro ws HO; (try simp only [List.set_cons_zero, List.set_cons_succ] at HO)) | (refine li_storeAgg 1 23 rfl rfl rfl rfl HO rfl rfl rfl rfl (by kernel_rfl) ?_; clear HO; intro ws HO; (try simp only [List.set_cons_zero, List.set_cons_succ] at HO))))
    refine bodyPost_ret (v := .agg ⟨mkl a b c⟩) ?_ rfl ⟨by rw [H.out], HO.below⟩
    simp [results, Try.results10, asAddr, Act.put, HO.loadWhole (P := Try.prog) 0 rfl 23 3 rfl (by kernel_rfl) (by kernel_rfl) (by kernel_rfl)]
set_option maxRecDepth 20000 in
set_option maxHeartbeats 8000000 in
theorem SketchAlone_any (a b c key n : Int) (w : World) (k1 : 0 ≤ key) (k2 : key < 18446744073709551616) (n1 : 0 ≤ n) (n2 : n ≤ 255) :
    Calls Try.prog 6 #[.agg #[.int .i64 a, .int .i64 b, .int .i64 c], .int .u64 key, .int .u8 n] w fun e w' => e = .returned (.bool true) ∧ Below w.heap.size w w' := by
  have HO := Own.nil w
  obtain ⟨B, hB⟩ : ∃ B, Sk.hw b = B := ⟨_, rfl⟩
  have hle := Sk.hw_le b
  rw [hB] at hle
  rcases Bool.eq_false_or_eq_true (Sk.right a B c) with hr | hr
  rotate_left
  · have H := Lib.hid hr
    clear hr
    go_enter Try.func6, Try.ntmps6
    go_wp2_with (first | (refine li_boxAgg 23 rfl rfl rfl HO ?_; clear HO; intro gb wb HO) | ((with_reducible refine gate_load 23 rfl ?_); first | (refine li_loadWhole 0 23 3 rfl rfl rfl HO rfl rfl (by kernel_rfl) (by kernel_rfl) (by kernel_rfl) ?_)) | ((with_reducible refine gate_store 23 rfl ?_); first | (refine li_storeAgg 0 23 rfl rfl rfl rfl HO rfl rfl rfl rfl (by kernel_rfl) ?_; clear HO; intro ws HO; (try simp only [List.set_cons_zero, List.set_cons_succ] at HO))) | ((with_reducible refine gate_load 3 rfl ?_); first | (refine li_load 0 3 rfl rfl rfl HO rfl rfl (by kernel_rfl) ?_)) | ((with_reducible refine gate_load 2 rfl ?_); first | (refine li_load 0 2 rfl rfl rfl HO rfl rfl (by kernel_rfl) ?_)) | (go_at_call 10; refine (held_any a b c _).mono ?_; rw [hB]; rintro e w1 ⟨rfl, hb⟩; replace HO := HO.next hb; clear hb) | (go_at_call 12; refine (Right_any _ _ _ _).mono ?_; rw [H.out]; rintro e w2 ⟨rfl, rfl⟩) | (go_at_call 9; refine (awake_any HO).mono ?_; rintro e w2 ⟨rfl, HO1⟩; clear HO; have HO := HO1; clear HO1))
    go_ret
    exact ⟨rfl, HO.below⟩
  obtain ⟨r1, r2, r3, r4, r5, r6⟩ : 1 ≤ a ∧ a ≤ 8 ∧ 1 ≤ B ∧ B ≤ 65536 ∧ 1 ≤ c ∧ c ≤ 1099511627776 := by unfold Sk.right at hr; simp at hr; omega
  have H := Lib.hid hr
  clear hr
  by_cases hc : c ≤ 256
  · have hd : decide (c ≤ 256) = true := decide_eq_true hc
    go_enter Try.func6, Try.ntmps6
    go_wp2_with (first | (refine li_boxAgg 23 rfl rfl rfl HO ?_; clear HO; intro gb wb HO) | ((with_reducible refine gate_load 23 rfl ?_); first | (refine li_loadWhole 0 23 3 rfl rfl rfl HO rfl rfl (by kernel_rfl) (by kernel_rfl) (by kernel_rfl) ?_)) | ((with_reducible refine gate_store 23 rfl ?_); first | (refine li_storeAgg 0 23 rfl rfl rfl rfl HO rfl rfl rfl rfl (by kernel_rfl) ?_; clear HO; intro ws HO; (try simp only [List.set_cons_zero, List.set_cons_succ] at HO))) | ((with_reducible refine gate_load 3 rfl ?_); first | (refine li_load 0 3 rfl rfl rfl HO rfl rfl (by kernel_rfl) ?_)) | ((with_reducible refine gate_load 2 rfl ?_); first | (refine li_load 0 2 rfl rfl rfl HO rfl rfl (by kernel_rfl) ?_)) | (go_at_call 10; refine (held_any a b c _).mono ?_; rw [hB]; rintro e w1 ⟨rfl, hb⟩; replace HO := HO.next hb; clear hb) | (go_at_call 12; refine (Right_any _ _ _ _).mono ?_; rw [H.out]; rintro e w2 ⟨rfl, rfl⟩) | (go_at_call 9; refine (awake_any HO).mono ?_; rintro e w2 ⟨rfl, HO1⟩; clear HO; have HO := HO1; clear HO1))
    go_ret
    exact ⟨rfl, HO.below⟩
  · have hd : decide (c ≤ 256) = false := decide_eq_false hc
    obtain ⟨rows, rfl⟩ : ∃ r : Nat, a = r := ⟨a.toNat, by omega⟩
    obtain ⟨wd, rfl⟩ : ∃ r : Nat, B = r := ⟨B.toNat, by omega⟩
    have hwn : IntKind.i64.wrap n = n := IntWalk.i64_in _ (by omega)
    go_enter Try.func6, Try.ntmps6
    go_wp2_with (first | (refine li_boxAgg 23 rfl rfl rfl HO ?_; clear HO; intro gb wb HO) | ((with_reducible refine gate_load 23 rfl ?_); first | (refine li_loadWhole 0 23 3 rfl rfl rfl HO rfl rfl (by kernel_rfl) (by kernel_rfl) (by kernel_rfl) ?_)) | ((with_reducible refine gate_store 23 rfl ?_); first | (refine li_storeAgg 0 23 rfl rfl rfl rfl HO rfl rfl rfl rfl (by kernel_rfl) ?_; clear HO; intro ws HO; (try simp only [List.set_cons_zero, List.set_cons_succ] at HO))) | ((with_reducible refine gate_load 3 rfl ?_); first | (refine li_load 0 3 rfl rfl rfl HO rfl rfl (by kernel_rfl) ?_)) | ((with_reducible refine gate_load 2 rfl ?_); first | (refine li_load 0 2 rfl rfl rfl HO rfl rfl (by kernel_rfl) ?_)) | (go_at_call 10; refine (held_any rows b c _).mono ?_; rw [hB]; rintro e w1 ⟨rfl, hb⟩; replace HO := HO.next hb; clear hb) | (go_at_call 12; refine (Right_any _ _ _ _).mono ?_; rw [H.out]; rintro e w2 ⟨rfl, rfl⟩) | (go_at_call 11; refine (SNew_yes rows wd c HO (by omega) (by omega) (by omega) (by omega) (by omega) (by omega)).mono ?_; rintro e w2 ⟨g, gr, cap, R, rfl, HO1, hR, hz⟩; clear HO; have HO := HO1; clear HO1))
    obtain ⟨L1, hL1⟩ : ∃ L1, [((gb, CellsP 23 (mkl rows wd c)) : Ent)] = L1 := ⟨_, rfl⟩
    change Own w _ (SkE g gr cap c 0 R ++ [((gb, CellsP 23 (mkl rows wd c)) : Ent)]) at HO
    rw [hL1] at HO
    clear hL1
    go_loopg [42] n.toNat (fun k v wr => ∃ (j : Int) (R : List Row), v = .int .u8 j ∧ 0 ≤ j ∧ j ≤ n ∧ k = (n - j).toNat ∧ Sk.Shape wd R ∧ Sk.Bd j R ∧ Sk.At key j R ∧ Own w wr (SkE g gr cap c j R ++ L1))
    case atStart => exact ⟨0, R, by rfl, by omega, by omega, by omega, Sk.zero_shape hz (by omega) (by omega) (by omega) (by omega), Sk.zero_bd hz, Sk.at_zero hz key, HO⟩
    case round =>
      clear HO hz hR
      obtain ⟨j, R, rfl, j0, j1, hk, hS, hB, hA, HO⟩ := hrel
      rcases (by omega : j < n ∨ n ≤ j) with hj | hj
      · have hd : decide (j < n) = true := decide_eq_true hj
        have hw1 : IntKind.u8.wrap (j + 1) = j + 1 := IntWalk.u8_in _ (by omega)
        go_wp2_with (first | (go_at_call 13; refine (Add_under key HO k1 k2 hS hB (by omega) (by omega) (by omega) (by omega) (by omega)).mono ?_; rintro e w2 ⟨rfl, HO1⟩; clear HO; have HO := HO1; clear HO1))
        go_roundg (n - (j + 1)).toNat
        case measure => omega
        case rel => exact ⟨j + 1, _, rfl, by omega, by omega, rfl, Sk.bumped_shape hS, Sk.bumped_bd hB (by omega), Sk.at_bumped hS hA, HO⟩
      · obtain rfl : j = n := by omega
        have hd : decide (j < j) = false := by simp
        have hc := Sk.count_at hS hA
        go_wp2_with (first | (go_at_call 17; refine (Count_any key HO k1 k2 hS).mono ?_; rw [hc]; rintro e w2 ⟨rfl, rfl⟩) | (go_at_call 19; refine (Adds_any HO).mono ?_; rintro e w2 ⟨rfl, rfl⟩) | (go_at_call 9; refine (awake_any HO).mono ?_; rintro e w2 ⟨rfl, HO1⟩; clear HO; have HO := HO1; clear HO1))
        go_ret
        exact ⟨ret_b (by simp), HO.below⟩
end Go.Proofs.Ytdjcgfknlhijiaa

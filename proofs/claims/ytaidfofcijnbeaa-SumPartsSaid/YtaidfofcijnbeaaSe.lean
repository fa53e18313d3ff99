/- Two sums joined. -/
import Derived.Test.YtaidfofcijnbeaaSd
namespace Go.Proofs.Ytaidfofcijnbeaa
set_option linter.unusedVariables false
set_option linter.unusedSimpArgs false
set_option linter.unnecessarySimpa false
open Go.RowKit
namespace Crc
theorem i64_bit (q : Nat) (h : q < 9223372036854775808) : bits .and .i64 (q : Int) 1 = ((q % 2 : Nat) : Int) := by
  have hx : q &&& 1 < 2 ^ 63 := Nat.and_lt_two_pow _ (by omega)
  have e1 : (BitVec.ofInt 64 (q : Int)).toNat = q := by
    rw [BitVec.ofInt_natCast, BitVec.toNat_ofNat]; exact Nat.mod_eq_of_lt (by omega)
  show IntKind.i64.wrap ((BitVec.ofInt 64 (q : Int) &&& BitVec.ofInt 64 (1 : Int)).toNat : Int) = _
  rw [BitVec.toNat_and, e1, show (BitVec.ofInt 64 (1 : Int)).toNat = 1 from rfl, IntKind.wrap_i64, nat_mask1]
  omega
theorem split (M q p r : Nat) (h : M = q * p + r) : M = q / 2 * (p + p) + (q % 2 * p + r) := by
  have h1 : q = q / 2 + q / 2 + q % 2 := by omega
  have h2 : q * p = q / 2 * p + q / 2 * p + q % 2 * p := by
    conv => lhs; rw [h1]
    rw [Nat.add_mul, Nat.add_mul]
  have h3 : q / 2 * (p + p) = q / 2 * p + q / 2 * p := Nat.mul_add _ _ _
  omega
end Crc
set_option maxRecDepth 20000 in
set_option maxHeartbeats 8000000 in
theorem Join_yes {w0 w : World} {L : List Ent} (a b : BitVec 32) (n : Nat) (hn : n ≤ 1099511627776) (HO : Own w0 w L) :
    Calls Try.prog 13 #[Crc.vi a, Crc.vi b, .int .i64 (n : Int)] w fun e w' => e = .returned (.tuple #[Crc.vi (Crc.join a b n), .int .i64 0]) ∧ Own w0 w' L := by
  have hd1 : decide ((n : Int) < 0) = false := decide_eq_false (by omega)
  have hd2 : decide ((1099511627776 : Int) < (n : Int)) = false := decide_eq_false (by omega)
  have hw8 : IntKind.i64.wrap (8 * (n : Int)) = ((8 * n : Nat) : Int) := by rw [IntWalk.i64_in _ (by omega)]; rfl
  have hjn : Crc.join a b n = Crc.Tn (8 * n) a ^^^ b := rfl
  have HJ := Lib.hid hjn
  clear hjn
  obtain ⟨M, hM⟩ : ∃ M, 8 * n = M := ⟨_, rfl⟩
  have hMl : M ≤ 8796093022208 := by omega
  rw [hM] at hw8 HJ
  have hbl := Crc.vlt b
  clear hM
  go_enter Try.func13, Try.ntmps13
  go_wp2_with (first | (refine li_alloc (t := 41) rfl rfl (z := .agg #[.int .u32 0, .int .u32 0, .int .u32 0, .int .u32 0, .int .u32 0, .int .u32 0, .int .u32 0, .int .u32 0, .int .u32 0, .int .u32 0, .int .u32 0, .int .u32 0, .int .u32 0, .int .u32 0, .int .u32 0, .int .u32 0, .int .u32 0, .int .u32 0, .int .u32 0, .int .u32 0, .int .u32 0, .int .u32 0, .int .u32 0, .int .u32 0, .int .u32 0, .int .u32 0, .int .u32 0, .int .u32 0, .int .u32 0, .int .u32 0, .int .u32 0, .int .u32 0]) (cs := [.int .u32 0, .int .u32 0, .int .u32 0, .int .u32 0, .int .u32 0, .int .u32 0, .int .u32 0, .int .u32 0, .int .u32 0, .int .u32 0, .int .u32 0, .int .u32 0, .int .u32 0, .int .u32 0, .int .u32 0, .int .u32 0, .int .u32 0, .int .u32 0, .int .u32 0, .int .u32 0, .int .u32 0, .int .u32 0, .int .u32 0, .int .u32 0, .int .u32 0, .int .u32 0, .int .u32 0, .int .u32 0, .int .u32 0, .int .u32 0, .int .u32 0, .int .u32 0]) (by kernel_rfl) rfl HO ?_; clear HO; (first | (have h_ : gh = gh := rfl; clear h_; intro gi wi HO) | (have h_ : gg = gg := rfl; clear h_; intro gh wh HO) | (have h_ : gf = gf := rfl; clear h_; intro gg wg HO) | (have h_ : ge = ge := rfl; clear h_; intro gf wf HO) | (have h_ : gd = gd := rfl; clear h_; intro ge we HO) | (have h_ : gc = gc := rfl; clear h_; intro gd wd HO) | (have h_ : gb = gb := rfl; clear h_; intro gc wc HO) | (have h_ : ga = ga := rfl; clear h_; intro gb wb HO) | intro ga wa HO)) | ((with_reducible refine gate_store 41 rfl ?_); first | (refine li_storeAgg 0 41 rfl rfl rfl rfl HO rfl rfl rfl rfl (by kernel_rfl) ?_; clear HO; intro ws HO; (try simp only [List.set_cons_zero, List.set_cons_succ] at HO))) | (go_at_call 19; refine (bit_any HO).mono ?_; rintro e w1 ⟨rfl, HO1⟩; clear HO; have HO := HO1; clear HO1))
  go_loopg [0, 9] M (fun k x0 x wr => ∃ q p r : Nat, x = .int .i64 (q : Int) ∧ 1 ≤ p ∧ M = q * p + r ∧ k = q ∧ x0 = Crc.vi (Crc.Tn r a) ∧ Own w0 wr ((ga, CellsP 41 (Crc.rowv p)) :: L))
  case atStart => exact ⟨M, 1, 0, by rfl, by omega, by omega, rfl, rfl, HO⟩
  case round =>
    clear HO
    obtain ⟨q, p, r, rfl, hp1, hq, hk, rfl, HO⟩ := hrel
    have hqM : q ≤ M := by
      have := Nat.le_mul_of_pos_right q hp1
      omega
    have hsp := Crc.split M q p r hq
    rcases Nat.lt_or_ge 0 q with hj | hj
    · have hd3 : decide ((0 : Int) < (q : Int)) = true := decide_eq_true (by omega)
      have hbit := Crc.i64_bit q (by omega)
      have hdiv : (q : Int) / 2 = ((q / 2 : Nat) : Int) := by omega
      obtain ⟨q', hq'⟩ : ∃ q', q / 2 = q' := ⟨_, rfl⟩
      rw [hq'] at hsp hdiv
      have hlt : q' < q := by omega
      have hT := Crc.Tn_add r p a
      rcases Nat.mod_two_eq_zero_or_one q with hb | hb
      · rw [hb] at hbit hsp
        have hbit2 : bits .and .i64 (q : Int) 1 = 0 := hbit
        have HS := Lib.hid hsp
        clear hq hsp hbit hb hq' hT
        go_wp2_with (first | (go_at_call 21; refine (twice_any p HO).mono ?_; rintro e w1 ⟨rfl, HO1⟩; clear HO; have HO := HO1; clear HO1) | (refine li_storeAgg 0 41 rfl rfl rfl rfl HO rfl rfl (Crc.rowv_one _) (by rw [Crc.rowv_len, Crc.rowv_len]) (by rw [Crc.rowv_len]; kernel_rfl) ?_; clear HO; intro ws HO; simp only [List.set_cons_zero, List.set_cons_succ] at HO))
        go_roundg q'
        case measure => omega
        case rel => exact ⟨q', p + p, r, rfl, by omega, by have := HS.out; omega, rfl, rfl, HO⟩
      · rw [hb] at hbit hsp
        have hbit2 : bits .and .i64 (q : Int) 1 = 1 := hbit
        have hT2 : Crc.Tn p (Crc.Tn r a) = Crc.Tn (p + r) a := by rw [Nat.add_comm, hT]
        obtain ⟨H, hH⟩ : ∃ H, Crc.Tn r a = H := ⟨_, rfl⟩
        rw [hH] at hT2 ⊢
        have HT := Lib.hid hT2
        have HS := Lib.hid hsp
        clear hq hsp hbit hb hq' hT hT2 hH
        go_wp2_with (first | (go_at_call 20; refine (times_any p H HO).mono ?_; rintro e w1 ⟨rfl, rfl⟩) | (go_at_call 21; refine (twice_any p HO).mono ?_; rintro e w1 ⟨rfl, HO1⟩; clear HO; have HO := HO1; clear HO1) | (refine li_storeAgg 0 41 rfl rfl rfl rfl HO rfl rfl (Crc.rowv_one _) (by rw [Crc.rowv_len, Crc.rowv_len]) (by rw [Crc.rowv_len]; kernel_rfl) ?_; clear HO; intro ws HO; simp only [List.set_cons_zero, List.set_cons_succ] at HO))
        go_roundg q'
        case measure => omega
        case rel => exact ⟨q', p + p, p + r, rfl, by omega, by have := HS.out; omega, rfl, by rw [HT.out], HO⟩
    · obtain rfl : q = 0 := by omega
      obtain rfl : M = r := by omega
      obtain ⟨H, hH⟩ : ∃ H, Crc.Tn M a = H := ⟨_, rfl⟩
      have hJ := HJ.out
      rw [hH] at hJ ⊢
      have hx := Crc.xor_v H b
      obtain ⟨R, hR⟩ : ∃ R, H ^^^ b = R := ⟨_, rfl⟩
      rw [hR] at hJ hx
      have HJ2 := Lib.hid hJ
      have hHl := Crc.vlt H
      clear hJ hH hR hsp hq
      go_wp2_with (fail)
      go_ret2
      exact ⟨by rw [HJ2.out]; rfl, HO.sub (.cons _ (List.Sublist.refl _))⟩
end Go.Proofs.Ytaidfofcijnbeaa

/- What becomes of each bit of a sum: the rows. -/
import Derived.Test.YtaidfofcijnbeaaSb
namespace Go.Proofs.Ytaidfofcijnbeaa
set_option linter.unusedVariables false
set_option linter.unusedSimpArgs false
set_option linter.unnecessarySimpa false
open Go.RowKit
namespace Crc
def rowv (n : Nat) : List Value := (row n).map vi
theorem rowv_len (n : Nat) : (rowv n).length = 32 := by simp [rowv, row_len]
theorem rowv_get (n i : Nat) (h : i < 32) : (rowv n)[i]? = some (vi (Tn n (one i))) := by simp [rowv, row_get n i h]
/-- A row as far as it is made. -/
def part (n k : Nat) : List Value := (List.range 32).map fun i => if i < k then vi (Tn n (one i)) else .int .u32 0
theorem part_len (n k : Nat) : (part n k).length = 32 := by simp [part]
theorem part_zero (n : Nat) : part n 0 = List.replicate 32 (.int .u32 0) := by
  rfl
theorem part_all (n : Nat) : part n 32 = rowv n := by
  apply List.ext_getElem?
  intro i
  by_cases h : i < 32
  · rw [rowv_get n i h]; simp [part, h]
  · rw [List.getElem?_eq_none (by rw [part_len]; omega), List.getElem?_eq_none (by rw [rowv_len]; omega)]
theorem part_succ (n k : Nat) {x : BitVec 32} (hx : x = Tn n (one k)) (h : k < 32) : (part n k).set k (vi x) = part n (k + 1) := by
  subst hx
  apply List.ext_getElem?
  intro i
  rw [List.getElem?_set]
  by_cases e : k = i
  · subst e
    rw [if_pos rfl, if_pos (by rw [part_len]; exact h)]
    simp [part, h]
  · rw [if_neg e]
    by_cases hi : i < 32
    · have : i < k ↔ i < k + 1 := by omega
      simp [part, hi, this]
    · rw [List.getElem?_eq_none (by rw [part_len]; omega), List.getElem?_eq_none (by rw [part_len]; omega)]
theorem part_set (n k : Nat) (a : Int) (hx : a = ((Tn n (one k)).toNat : Int)) (h : k < 32) : (part n k).set k (.int .u32 a) = part n (k + 1) := by
  subst hx
  exact part_succ n k rfl h
/-- Is a bit set, as the code asks. -/
theorem bit_ask (v : BitVec 32) (i : Nat) : bits .and .u32 ((v.toNat : Int) / 2 ^ i) 1 = if v.getLsbD i then 1 else 0 := by
  have hv := v.isLt
  have e : (v.toNat : Int) / 2 ^ i = ((v.toNat / 2 ^ i : Nat) : Int) := by
    rw [Int.natCast_ediv]; congr 1
  have hle : v.toNat / 2 ^ i ≤ v.toNat := Nat.div_le_self _ _
  have h2 := u32_and_nat (v.toNat / 2 ^ i) 1 (by omega) (by omega)
  have h3 : ((1 : Nat) : Int) = 1 := rfl
  rw [h3] at h2
  rw [e, h2, nat_mask1, BitVec.getLsbD, Nat.testBit_eq_decide_div_mod_eq]
  by_cases h : v.toNat / 2 ^ i % 2 = 1
  · rw [h]; simp
  · have : v.toNat / 2 ^ i % 2 = 0 := by omega
    rw [this]; simp
theorem ask_any (v : BitVec 32) (i : Nat) (hi : i < 32) : ∃ q : Int, 0 ≤ q ∧ q < 4294967296 ∧ (v.toNat : Int) / 2 ^ i = q ∧ bits .and .u32 q 1 = if v.getLsbD i then 1 else 0 := by
  have hv := v.isLt
  refine ⟨(v.toNat : Int) / 2 ^ i, ?_, ?_, rfl, bit_ask v i⟩
  · exact Int.ediv_nonneg (by omega) (Int.le_of_lt (Int.pow_pos (by omega)))
  · have : (v.toNat : Int) / 2 ^ i = ((v.toNat / 2 ^ i : Nat) : Int) := by rw [Int.natCast_ediv]; congr 1
    have h2 : v.toNat / 2 ^ i ≤ v.toNat := Nat.div_le_self _ _
    omega
theorem shift_ask (v : BitVec 32) (i : Nat) (hi : i < 32) {q : Int} (hq : (v.toNat : Int) / 2 ^ i = q) : Op.shift .shr .u32 (v.toNat : Int) .i64 (i : Int) = pure (.int .u32 q) := by
  rw [shift_shr_any _ _ _ _ (by omega), ← hq]
  have : min ((i : Int).toNat) IntKind.u32.bits = i := by
    rw [Int.toNat_natCast]
    show min i 32 = i
    omega
  rw [this]
end Crc
set_option maxRecDepth 20000 in
set_option maxHeartbeats 8000000 in
theorem times_any {w0 w : World} {L : List Ent} {g : Nat} (n : Nat) (v : BitVec 32) (HO : Own w0 w ((g, CellsP 41 (Crc.rowv n)) :: L)) :
    Calls Try.prog 20 #[.pointer (some ⟨g, 0, none⟩), Crc.vi v] w fun e w' => e = .returned (Crc.vi (Crc.Tn n v)) ∧ w = w' := by
  have hv := Crc.vlt v
  have hfin := Crc.sums_Tn n v
  have HF := Lib.hid hfin
  clear hfin
  obtain ⟨V, hV⟩ : ∃ V : Int, (v.toNat : Int) = V := ⟨_, rfl⟩
  unfold Crc.vi
  rw [hV] at hv ⊢
  have hv0 : 0 ≤ V := by omega
  have HV := Lib.hid hV
  clear hV
  go_enter Try.func20, Try.ntmps20
  go_wp2
  go_loopg [5, 7] 32 (fun k v5 x wr => ∃ j : Nat, x = .int .i64 (j : Int) ∧ j ≤ 32 ∧ k = 32 - j ∧ v5 = Crc.vi (Crc.sums (Crc.Tn n) v j) ∧ wr = w)
  case atStart => exact ⟨0, by rfl, by omega, by omega, rfl, rfl⟩
  case round =>
    obtain ⟨j, rfl, j1, hk, rfl, rfl⟩ := hrel
    rcases Nat.lt_or_ge j 32 with hj | hj
    · have hd : decide ((j : Int) < 32) = true := decide_eq_true (by omega)
      have hw1 : IntKind.i64.wrap ((j : Int) + 1) = ((j + 1 : Nat) : Int) := by rw [IntWalk.i64_in _ (by omega)]; rfl
      have hb0 : (0 : Int) ≤ (j : Int) := by omega
      have hb1 : (j : Int) < 32 := by omega
      have hst : Crc.sums (Crc.Tn n) v (j + 1) = Crc.sums (Crc.Tn n) v j ^^^ (if v.getLsbD j then Crc.Tn n (Crc.one j) else 0#32) := rfl
      obtain ⟨q, q0, q1, hq, hask⟩ := Crc.ask_any v j hj
      rw [HV.out] at hq
      have hget := Crc.rowv_get n j hj
      obtain ⟨H, hH⟩ : ∃ H, Crc.sums (Crc.Tn n) v j = H := ⟨_, rfl⟩
      obtain ⟨O, hO⟩ : ∃ O, Crc.Tn n (Crc.one j) = O := ⟨_, rfl⟩
      rw [hH] at hst ⊢
      rw [hO] at hst hget
      have hHl := Crc.vlt H
      have hOl := Crc.vlt O
      clear hH hO
      rcases Bool.eq_false_or_eq_true (v.getLsbD j) with hb | hb
      · rw [hb] at hst hask
        have hask2 : bits .and .u32 q 1 = 1 := hask
        have hst2 : Crc.sums (Crc.Tn n) v (j + 1) = H ^^^ O := hst
        obtain ⟨M, hM⟩ : ∃ M, H ^^^ O = M := ⟨_, rfl⟩
        have hx := Crc.xor_v H O
        rw [hM] at hst2 hx
        have HS := Lib.hid hst2
        have HG := Lib.hid hget
        clear hst hst2 hask hM hb hget
        go_wp2_with (first | (refine li_load 0 23 rfl rfl (off := j) rfl HO rfl HG.out (by kernel_rfl) ?_))
        go_roundg (32 - (j + 1))
        case measure => omega
        case rel => exact ⟨j + 1, rfl, by omega, rfl, by rw [HS.out], rfl⟩
      · rw [hb] at hst hask
        have hask2 : bits .and .u32 q 1 = 0 := hask
        have hst2 : Crc.sums (Crc.Tn n) v (j + 1) = H := by rw [hst]; exact BitVec.xor_zero
        have HS := Lib.hid hst2
        clear hst hst2 hask hb hget
        go_wp2_with (fail)
        go_roundg (32 - (j + 1))
        case measure => omega
        case rel => exact ⟨j + 1, rfl, by omega, rfl, by rw [HS.out], rfl⟩
    · obtain rfl : j = 32 := by omega
      go_wp2
      go_ret
      exact ⟨by rw [← HF.out]; rfl, rfl⟩
end Go.Proofs.Ytaidfofcijnbeaa

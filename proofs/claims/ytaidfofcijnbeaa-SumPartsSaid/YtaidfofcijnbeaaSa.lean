/- One byte more, by the code and by the reference. -/
import Derived.Test.YtaidfofcijnbeaaRows
import Derived.Test.YtaidfofcijnbeaaMb
import Derived.Test.YtaidfofcijnbeaaS
import Derived.Test.YtaidfofcijnbeaaG
import Derived.Laws.BitsAllLaws
namespace Go.Proofs.Ytaidfofcijnbeaa
set_option linter.unusedVariables false
set_option linter.unusedSimpArgs false
set_option linter.unnecessarySimpa false
open Go.RowKit
namespace Crc
/-- A number's value. -/
abbrev vi (x : BitVec 32) : Value := .int .u32 (x.toNat : Int)
theorem vi_i {a : Int} {x : BitVec 32} (h : a = (x.toNat : Int)) : Value.int .u32 a = vi x := by rw [h]
theorem vlt (x : BitVec 32) : (x.toNat : Int) < 4294967296 := by have := x.isLt; omega
theorem T_nat (H : BitVec 32) : (T H).toNat = (H.toNat / 2) ^^^ (if H.toNat % 2 = 1 then 3988292384 else 0) := by
  unfold T
  rw [BitVec.toNat_xor, BitVec.toNat_ushiftRight, Nat.shiftRight_eq_div_pow]
  have e : H.getLsbD 0 = decide (H.toNat % 2 = 1) := by
    rw [BitVec.getLsbD, Nat.testBit_zero]
  rw [e]
  by_cases h : H.toNat % 2 = 1
  · simp [h, poly]
  · simp [h]
theorem and_one (H : BitVec 32) : bits .and .u32 (H.toNat : Int) 1 = ((H.toNat % 2 : Nat) : Int) := by
  have := H.isLt
  rw [u32_and _ _ (by omega) (by omega) (by omega) (by omega)]
  simp only [Int.toNat_natCast]
  rw [show (1 : Int).toNat = 1 from rfl, nat_mask1]
theorem xor_nat (a b : Nat) (ha : a < 4294967296) (hb : b < 4294967296) : bits .xor .u32 (a : Int) (b : Int) = ((a ^^^ b : Nat) : Int) := u32_xor_nat a b ha hb
theorem T_code (H : BitVec 32) : bits .xor .u32 ((H.toNat : Int) / 2) (3988292384 * bits .and .u32 (H.toNat : Int) 1 % 4294967296) = ((T H).toNat : Int) := by
  have hl := H.isLt
  rw [and_one, T_nat]
  have e1 : (H.toNat : Int) / 2 = ((H.toNat / 2 : Nat) : Int) := by omega
  have e2 : 3988292384 * ((H.toNat % 2 : Nat) : Int) % 4294967296 = ((if H.toNat % 2 = 1 then 3988292384 else 0 : Nat) : Int) := by
    split <;> omega
  rw [e1, e2, xor_nat _ _ (by omega) (by split <;> omega)]
theorem T_odd (H : BitVec 32) (h : H.toNat % 2 = 1) : bits .xor .u32 ((H.toNat : Int) / 2) 3988292384 = ((T H).toNat : Int) := by
  have hl := H.isLt
  rw [T_nat, if_pos h]
  have e1 : (H.toNat : Int) / 2 = ((H.toNat / 2 : Nat) : Int) := by omega
  rw [e1]
  exact xor_nat _ 3988292384 (by omega) (by omega)
theorem T_even (H : BitVec 32) (h : H.toNat % 2 = 0) : (H.toNat : Int) / 2 = ((T H).toNat : Int) := by
  rw [T_nat, if_neg (by omega), Nat.xor_zero]
  omega
theorem xor_byte (c : BitVec 32) (b : BitVec 8) : bits .xor .u32 (c.toNat : Int) (b.toNat : Int) = ((c ^^^ b.setWidth 32).toNat : Int) := by
  have := c.isLt
  have := b.isLt
  rw [xor_nat _ _ (by omega) (by omega), BitVec.toNat_xor, BitVec.toNat_setWidth]
  congr 2
  omega
theorem xor_v (c d : BitVec 32) : bits .xor .u32 (c.toNat : Int) (d.toNat : Int) = ((c ^^^ d).toNat : Int) := by
  have := c.isLt
  have := d.isLt
  rw [xor_nat _ _ (by omega) (by omega), BitVec.toNat_xor]
theorem xor_all (c : BitVec 32) : bits .xor .u32 (c.toNat : Int) 4294967295 = ((~~~ c).toNat : Int) := by
  have := xor_v c (BitVec.allOnes 32)
  rw [BitVec.xor_allOnes] at this
  exact this
theorem not_x (c : BitVec 32) : bits .xor .u32 4294967295 (c.toNat : Int) = ((~~~ c).toNat : Int) := by
  have := xor_v (BitVec.allOnes 32) c
  rw [BitVec.xor_comm, BitVec.xor_allOnes] at this
  exact this
theorem u32_sg : IntKind.u32.signed = false := rfl
theorem u32_mx : IntKind.u32.max = 4294967295 := rfl
end Crc
set_option maxHeartbeats 4000000 in
theorem step_any (c : BitVec 32) (w : World) :
    Calls Try.prog 17 #[Crc.vi c] w fun e w' => e = .returned (Crc.vi (Crc.Tn 8 c)) ∧ w = w' := by
  have hc := Crc.vlt c
  go_enter Try.func17, Try.ntmps17
  go_wp2
  go_loopg [0, 4] 8 (fun k v0 v wr => ∃ j : Nat, v = .int .i64 (j : Int) ∧ j ≤ 8 ∧ k = 8 - j ∧ v0 = Crc.vi (Crc.Tn j c) ∧ wr = w)
  case atStart => exact ⟨0, by rfl, by omega, by omega, rfl, rfl⟩
  case round =>
    obtain ⟨j, rfl, j1, hk, rfl, rfl⟩ := hrel
    have hw1 : IntKind.i64.wrap ((j : Int) + 1) = ((j + 1 : Nat) : Int) := by rw [IntWalk.i64_in _ (by omega)]; rfl
    rcases Nat.lt_or_ge j 8 with hj | hj
    · have hd : decide ((j : Int) < 8) = true := decide_eq_true (by omega)
      have hst := Crc.Tn_succ j c
      obtain ⟨H, hH⟩ : ∃ H, Crc.Tn j c = H := ⟨_, rfl⟩
      rw [hH] at hst ⊢
      have hHl := Crc.vlt H
      have hst' := Lib.hid hst
      clear hst hc
      go_wp2
      go_roundg (8 - (j + 1))
      case measure => omega
      case rel => exact ⟨j + 1, rfl, by omega, rfl, by rw [hst'.out, Crc.T_code], rfl⟩
    · obtain rfl : j = 8 := by omega
      go_wp2
      go_ret
      exact ⟨rfl, rfl⟩
set_option maxHeartbeats 4000000 in
theorem rstep_any (c : BitVec 32) (b : BitVec 8) (w : World) :
    Calls Try.prog 18 #[Crc.vi c, .int .u8 (b.toNat : Int)] w fun e w' => e = .returned (Crc.vi (Crc.by8 c b)) ∧ w = w' := by
  have hc := Crc.vlt c
  have hb : (b.toNat : Int) < 256 := by have := b.isLt; omega
  have hx := Crc.xor_byte c b
  unfold Crc.by8
  obtain ⟨d, hd⟩ : ∃ d, c ^^^ b.setWidth 32 = d := ⟨_, rfl⟩
  rw [hd] at hx ⊢
  have hdl := Crc.vlt d
  go_enter Try.func18, Try.ntmps18
  go_wp2
  go_loopg [0, 5] 8 (fun k v0 v wr => ∃ j : Nat, v = .int .i64 (j : Int) ∧ j ≤ 8 ∧ k = 8 - j ∧ v0 = Crc.vi (Crc.Tn j d) ∧ wr = w)
  case atStart => exact ⟨0, by rfl, by omega, by omega, rfl, rfl⟩
  case round =>
    obtain ⟨j, rfl, j1, hk, rfl, rfl⟩ := hrel
    have hw1 : IntKind.i64.wrap ((j : Int) + 1) = ((j + 1 : Nat) : Int) := by rw [IntWalk.i64_in _ (by omega)]; rfl
    rcases Nat.lt_or_ge j 8 with hj | hj
    · have hd : decide ((j : Int) < 8) = true := decide_eq_true (by omega)
      have hst := Crc.Tn_succ j d
      obtain ⟨H, hH⟩ : ∃ H, Crc.Tn j d = H := ⟨_, rfl⟩
      rw [hH] at hst ⊢
      have hHl := Crc.vlt H
      have hst' := Lib.hid hst
      have ha := Crc.and_one H
      clear hst hx
      rcases Nat.mod_two_eq_zero_or_one H.toNat with h0 | h1
      · have e := Crc.T_even H h0
        rw [h0] at ha
        have ha2 : bits .and .u32 (H.toNat : Int) 1 = 0 := ha
        have E := Lib.hid e
        clear e ha h0
        go_wp2
        go_roundg (8 - (j + 1))
        case measure => omega
        case rel => exact ⟨j + 1, rfl, by omega, rfl, by rw [hst'.out]; exact Crc.vi_i E.out, rfl⟩
      · have e := Crc.T_odd H h1
        rw [h1] at ha
        have ha2 : bits .and .u32 (H.toNat : Int) 1 = 1 := ha
        have E := Lib.hid e
        clear e ha h1
        go_wp2
        go_roundg (8 - (j + 1))
        case measure => omega
        case rel => exact ⟨j + 1, rfl, by omega, rfl, by rw [hst'.out]; exact Crc.vi_i E.out, rfl⟩
    · obtain rfl : j = 8 := by omega
      go_wp2
      go_ret
      exact ⟨rfl, rfl⟩
/-- A slice that reads as these bytes. -/
def Bs (w : World) (v : Value) (l : List (BitVec 8)) : Prop :=
  ∃ (ao : Option Addr) (cap : Nat), v = .slice ao l.length cap ∧ l.length ≤ cap ∧ cap ≤ maxLen ∧ ∀ (i : Nat) (b : BitVec 8), l[i]? = some b → ∃ a, ao = some a ∧ w.cell? (a.add i) = some (.int .u8 (b.toNat : Int))
set_option maxRecDepth 20000 in
set_option maxHeartbeats 8000000 in
theorem More_any {w : World} {v : Value} {l : List (BitVec 8)} (s : BitVec 32) (hl : Bs w v l) :
    Calls Try.prog 11 #[Crc.vi s, v] w fun e w' => e = .returned (Crc.vi (Crc.more s l)) ∧ w = w' := by
  obtain ⟨ao, cap, rfl, hc1, hc2, hrd⟩ := hl
  obtain ⟨n, hn⟩ : ∃ n, l.length = n := ⟨_, rfl⟩
  have hmx : maxLen = 9223372036854775807 := rfl
  have hsl := Crc.vlt s
  rw [hn] at hc1 ⊢
  have hsg := Crc.u32_sg
  have hmm := Crc.u32_mx
  have hnx := Crc.not_x s
  have hml : Crc.more s l = ~~~ (Crc.fold (~~~ s) l) := rfl
  obtain ⟨ns, hns⟩ : ∃ x, ~~~ s = x := ⟨_, rfl⟩
  rw [hns] at hnx hml
  have hnl := Crc.vlt ns
  have hnb : n ≤ 9223372036854775807 := by omega
  clear hns hmx
  have HM := Lib.hid hml
  clear hml
  go_enter Try.func11, Try.ntmps11
  go_wp2
  go_loopg [5, 12] n (fun k v5 v wr => ∃ j : Nat, v = .int .i64 (j : Int) ∧ j ≤ n ∧ k = n - j ∧ v5 = Crc.vi (Crc.fold ns (l.take j)) ∧ wr = w)
  case atStart => exact ⟨0, by rfl, by omega, by omega, rfl, rfl⟩
  case round =>
    obtain ⟨j, rfl, j1, hk, rfl, rfl⟩ := hrel
    rcases Nat.lt_or_ge j n with hj | hj
    · have hd : decide ((j : Int) < (n : Int)) = true := decide_eq_true (by omega)
      have hw1 : IntKind.i64.wrap ((j : Int) + 1) = ((j + 1 : Nat) : Int) := by rw [IntWalk.i64_in _ (by omega)]; rfl
      have hb0 : (0 : Int) ≤ (j : Int) := by omega
      have hb1 : (j : Int) < (n : Int) := by omega
      obtain ⟨b, e1⟩ : ∃ k, l[j]? = some k := ⟨_, List.getElem?_eq_getElem (by omega)⟩
      obtain ⟨ad, rfl, hcl⟩ := hrd j b e1
      have hst : Crc.fold ns (l.take (j + 1)) = Crc.by8 (Crc.fold ns (l.take j)) b := by
        rw [List.take_add_one, e1, Crc.fold_append]; rfl
      obtain ⟨H, hH⟩ : ∃ H, Crc.fold ns (l.take j) = H := ⟨_, rfl⟩
      rw [hH] at hst ⊢
      have hHl := Crc.vlt H
      have hx := Crc.xor_byte H b
      have h8 : Crc.by8 H b = Crc.Tn 8 (H ^^^ b.setWidth 32) := rfl
      obtain ⟨d, hd8⟩ : ∃ d, H ^^^ b.setWidth 32 = d := ⟨_, rfl⟩
      rw [hd8] at hx h8
      rw [h8] at hst
      have hbl : (b.toNat : Int) < 256 := by have := b.isLt; omega
      have hst' := Lib.hid hst
      clear hst h8 hd8 hH hnx hn e1
      go_wp2_with (first | (refine li_loadAt 5 rfl rfl rfl hcl (by kernel_rfl) ?_) | (go_at_call 17; refine (step_any _ _).mono ?_; rintro e w2 ⟨rfl, rfl⟩))
      go_roundg (n - (j + 1))
      case measure => omega
      case rel => exact ⟨j + 1, rfl, by omega, rfl, by rw [hst'.out], rfl⟩
    · obtain rfl : j = n := by omega
      have hd : decide ((j : Int) < (j : Int)) = false := by simp
      have e : Crc.more s l = ~~~ Crc.fold ns (l.take j) := by rw [List.take_of_length_le (by omega)]; exact HM.out
      obtain ⟨H, hH⟩ : ∃ H, Crc.fold ns (l.take j) = H := ⟨_, rfl⟩
      rw [hH] at e ⊢
      have := Crc.vlt H
      have hnh := Crc.not_x H
      obtain ⟨nH, hnH⟩ : ∃ x, ~~~ H = x := ⟨_, rfl⟩
      rw [hnH] at hnh e
      have EE := Lib.hid e
      clear e hnx hnH hH hn
      go_wp2
      go_ret
      exact ⟨by rw [EE.out]; rfl, rfl⟩
set_option maxRecDepth 20000 in
set_option maxHeartbeats 8000000 in
theorem RMore_any {w : World} {v : Value} {l : List (BitVec 8)} (s : BitVec 32) (hl : Bs w v l) :
    Calls Try.prog 12 #[Crc.vi s, v] w fun e w' => e = .returned (Crc.vi (Crc.more s l)) ∧ w = w' := by
  obtain ⟨ao, cap, rfl, hc1, hc2, hrd⟩ := hl
  obtain ⟨n, hn⟩ : ∃ n, l.length = n := ⟨_, rfl⟩
  have hmx : maxLen = 9223372036854775807 := rfl
  have hsl := Crc.vlt s
  rw [hn] at hc1 ⊢
  have hnx := Crc.xor_all s
  have hml : Crc.more s l = ~~~ (Crc.fold (~~~ s) l) := rfl
  obtain ⟨ns, hns⟩ : ∃ x, ~~~ s = x := ⟨_, rfl⟩
  rw [hns] at hnx hml
  have hnl := Crc.vlt ns
  have hnb : n ≤ 9223372036854775807 := by omega
  clear hns hmx
  have HM := Lib.hid hml
  clear hml
  go_enter Try.func12, Try.ntmps12
  go_wp2
  go_loopg [5, 6] n (fun k v5 v wr => ∃ j : Nat, v = .int .i64 (j : Int) ∧ j ≤ n ∧ k = n - j ∧ v5 = Crc.vi (Crc.fold ns (l.take j)) ∧ wr = w)
  case atStart => exact ⟨0, by rfl, by omega, by omega, rfl, rfl⟩
  case round =>
    obtain ⟨j, rfl, j1, hk, rfl, rfl⟩ := hrel
    rcases Nat.lt_or_ge j n with hj | hj
    · have hd : decide ((j : Int) < (n : Int)) = true := decide_eq_true (by omega)
      have hw1 : IntKind.i64.wrap ((j : Int) + 1) = ((j + 1 : Nat) : Int) := by rw [IntWalk.i64_in _ (by omega)]; rfl
      have hb0 : (0 : Int) ≤ (j : Int) := by omega
      have hb1 : (j : Int) < (n : Int) := by omega
      obtain ⟨b, e1⟩ : ∃ k, l[j]? = some k := ⟨_, List.getElem?_eq_getElem (by omega)⟩
      obtain ⟨ad, rfl, hcl⟩ := hrd j b e1
      have hst : Crc.fold ns (l.take (j + 1)) = Crc.by8 (Crc.fold ns (l.take j)) b := by
        rw [List.take_add_one, e1, Crc.fold_append]; rfl
      obtain ⟨H, hH⟩ : ∃ H, Crc.fold ns (l.take j) = H := ⟨_, rfl⟩
      rw [hH] at hst ⊢
      have hHl := Crc.vlt H
      have hbl : (b.toNat : Int) < 256 := by have := b.isLt; omega
      have hst' := Lib.hid hst
      clear hst hH hnx hn e1
      go_wp2_with (first | (refine li_loadAt 5 rfl rfl rfl hcl (by kernel_rfl) ?_) | (go_at_call 18; refine (rstep_any _ _ _).mono ?_; rintro e w2 ⟨rfl, rfl⟩))
      go_roundg (n - (j + 1))
      case measure => omega
      case rel => exact ⟨j + 1, rfl, by omega, rfl, by rw [hst'.out], rfl⟩
    · obtain rfl : j = n := by omega
      have hd : decide ((j : Int) < (j : Int)) = false := by simp
      have e : Crc.more s l = ~~~ Crc.fold ns (l.take j) := by rw [List.take_of_length_le (by omega)]; exact HM.out
      obtain ⟨H, hH⟩ : ∃ H, Crc.fold ns (l.take j) = H := ⟨_, rfl⟩
      rw [hH] at e ⊢
      have := Crc.vlt H
      have hnh := Crc.xor_all H
      obtain ⟨nH, hnH⟩ : ∃ x, ~~~ H = x := ⟨_, rfl⟩
      rw [hnH] at hnh e
      have EE := Lib.hid e
      clear e hnx hnH hH hn
      go_wp2
      go_ret
      exact ⟨by rw [EE.out]; rfl, rfl⟩
end Go.Proofs.Ytaidfofcijnbeaa

/- The code's sum of bytes and of numbers behind them; the law on it. -/
import Derived.Test.YtaidfofcijnbeaaSi
namespace Go.Proofs.Ytaidfofcijnbeaa
set_option linter.unusedVariables false
set_option linter.unusedSimpArgs false
set_option linter.unnecessarySimpa false
open Go.RowKit
set_option maxRecDepth 20000 in
set_option maxHeartbeats 8000000 in
theorem Mark_any {w : World} {v v2 : Value} {l : List (BitVec 8)} {ws : List Int} (hl : Bs w v l) (h2 : ArgS w 1 v2 (ws.map wordRow)) :
    Calls Try.prog 15 #[v, v2] w fun e w' => e = .returned (Crc.vi (Crc.marks (Crc.crc l) ws)) ∧ Below w.heap.size w w' := by
  have HB := Lib.hid hl
  obtain ⟨ao, cap, rfl, hc1, hrd⟩ := argS_word h2
  obtain ⟨n, hn⟩ : ∃ n, ws.length = n := ⟨_, rfl⟩
  have hmx : maxLen = 9223372036854775807 := rfl
  rw [hn] at hc1 ⊢
  have hnb : n ≤ 9223372036854775807 := by omega
  clear hmx
  obtain ⟨c, hc⟩ : ∃ c, Crc.crc l = c := ⟨_, rfl⟩
  rw [hc]
  have HC := Lib.hid hc
  have HO := Own.nil w
  clear hc hl h2
  go_enter Try.func15, Try.ntmps15
  go_wp2_with (go_at_call 9; (with_reducible refine (Of_any HB.out).mono ?_); rw [HC.out]; rintro e w2 ⟨rfl, rfl⟩)
  go_loopg [5, 14] n (fun k x5 x wr => ∃ j : Nat, x = .int .i64 (j : Int) ∧ j ≤ n ∧ k = n - j ∧ x5 = Crc.vi (Crc.marks c (ws.take j)) ∧ Own w wr [])
  case atStart => exact ⟨0, by rfl, by omega, by omega, rfl, HO⟩
  case round =>
    clear HO
    obtain ⟨j, rfl, j1, hk, rfl, HO⟩ := hrel
    rcases Nat.lt_or_ge j n with hj | hj
    · have hd : decide ((j : Int) < (n : Int)) = true := decide_eq_true (by omega)
      have hw1 : IntKind.i64.wrap ((j : Int) + 1) = ((j + 1 : Nat) : Int) := by rw [IntWalk.i64_in _ (by omega)]; rfl
      have hb0 : (0 : Int) ≤ (j : Int) := by omega
      have hb1 : (j : Int) < (n : Int) := by omega
      obtain ⟨x, e1⟩ : ∃ k, ws[j]? = some k := ⟨_, List.getElem?_eq_getElem (by omega)⟩
      obtain ⟨ad, rfl, hcl⟩ := hrd j x e1
      have hst := Crc.marks_succ c ws j e1
      obtain ⟨H, hH⟩ : ∃ H, Crc.marks c (ws.take j) = H := ⟨_, rfl⟩
      rw [hH] at hst ⊢
      have hu := Crc.uns_eq x
      have hul := Crc.uns_lt x
      obtain ⟨U, hU⟩ : ∃ U, Crc.uns x = U := ⟨_, rfl⟩
      rw [hU] at hu hul hst
      obtain ⟨M, hM⟩ : ∃ M, Crc.more H (Crc.wbl U 8) = M := ⟨_, rfl⟩
      rw [hM] at hst
      have HS := Lib.hid hst
      have HM := Lib.hid hM
      obtain ⟨V, hV⟩ : ∃ V : Int, (U : Int) = V := ⟨_, rfl⟩
      have hUL : U < 18446744073709551616 := hul
      rw [hV] at hu
      have hv0 : 0 ≤ V := by omega
      have hv1 : V < 18446744073709551616 := by omega
      have HV := Lib.hid hV
      clear hst hH e1 hM hn hU hV
      go_wp2_with (refine li_loadAt 2 rfl rfl rfl (HO.old hcl) (by kernel_rfl) ?_)
      go_loopg [8, 18] 8 (fun k x8 x wr => ∃ (i : Nat), x = .int .i64 (i : Int) ∧ i ≤ 8 ∧ k = 8 - i ∧ ((i = 0 ∧ x8 = .slice none 0 0 ∧ Own w wr []) ∨ (0 < i ∧ ∃ g cap, x8 = .slice (some ⟨g, 0, none⟩) i cap ∧ Own w wr [(g, RowP 5 1 cap (Crc.bys (Crc.wbl U i)))])))
      case atStart => exact ⟨0, by rfl, by omega, by omega, .inl ⟨rfl, rfl, HO⟩⟩
      case round =>
        clear HO
        obtain ⟨i, rfl, i1, hki, hc⟩ := hrel
        rcases Nat.lt_or_ge i 8 with hi | hi
        · have hd2 : decide ((i : Int) < 8) = true := decide_eq_true (by omega)
          have hw2 : IntKind.i64.wrap ((i : Int) + 1) = ((i + 1 : Nat) : Int) := by rw [IntWalk.i64_in _ (by omega)]; rfl
          have hw8 : IntKind.i64.wrap (8 * (i : Int)) = ((8 * i : Nat) : Int) := by rw [IntWalk.i64_in _ (by omega)]; rfl
          have h80 : (0 : Int) ≤ ((8 * i : Nat) : Int) := by omega
          have h81 : ((8 * i : Nat) : Int) ≤ 64 := by omega
          obtain ⟨q, B, e1, q0, q1, e2, b0, b1, e3, e4, e5⟩ := Crc.quo_facts U i hUL
          rw [HV.out] at e1
          have H3 := Lib.hid e3
          have HL := Lib.hid ((Crc.bys_len (Crc.wbl U i)).trans ((Crc.wbl_len U i).trans (Nat.mul_one i).symm))
          clear e3 e4 e5
          rcases hc with ⟨rfl, rfl, HO⟩ | ⟨hj0, g, cap, rfl, HO⟩
          · have e1' : V = q := by rw [← e1]; simp
            subst e1'
            go_wp2_with (first | (refine li_bslice 22 1 rfl rfl (by go_simp; rfl) rfl (by decide) HO ?_; clear HO; intro gn w1 HO) | (refine li_append_nil1 el22 rfl rfl rfl HO rfl rfl rfl (by decide) (by decide) (by decide) ?_; clear HO; intro gq cq wq hcq HO))
            have h3 : [Value.int .u8 B] = Crc.bys (Crc.wbl U 1) := H3.out
            rw [h3] at HO
            go_roundg 7
            case measure => omega
            case rel => exact ⟨1, by rfl, by omega, rfl, .inr ⟨by omega, gq, cq, rfl, HO⟩⟩
          · go_wp2_with (first | (refine li_bslice 22 1 rfl rfl (by go_simp; rfl) rfl (by decide) HO ?_; clear HO; intro gn w1 HO) | (refine li_append_row1 0 el22 rfl rfl rfl HO rfl HL.out rfl rfl rfl (by decide) (by have : maxLen = 9223372036854775807 := rfl; omega) (by omega) ?_; clear HO; intro gq cq wq hcq HO))
            rw [H3.out] at HO
            go_roundg (8 - (i + 1))
            case measure => omega
            case rel => exact ⟨i + 1, by rfl, by omega, rfl, .inr ⟨by omega, gq, cq, rfl, HO⟩⟩
        · obtain rfl : i = 8 := by omega
          rcases hc with ⟨h0, _⟩ | ⟨hj0, g, cap, rfl, HO⟩
          · omega
          go_wp2_with (first | (go_at_call 11; (with_reducible refine (More_any H (Bs_row_wb HO)).mono ?_); rw [HM.out]; rintro e w2 ⟨rfl, rfl⟩))
          have HO1 := HO.tail
          go_roundg (n - (j + 1))
          case measure => omega
          case rel => exact ⟨j + 1, rfl, by omega, rfl, by rw [HS.out], HO1⟩
    · obtain rfl : j = n := by omega
      have hd : decide ((j : Int) < (j : Int)) = false := by simp
      rw [List.take_of_length_le (by omega)]
      obtain ⟨H, hH⟩ : ∃ H, Crc.marks c ws = H := ⟨_, rfl⟩
      rw [hH]
      have HS := Lib.hid hH
      clear hH hn
      go_wp2_with (fail)
      go_ret
      exact ⟨by rw [HS.out]; rfl, HO.below⟩
end Go.Proofs.Ytaidfofcijnbeaa

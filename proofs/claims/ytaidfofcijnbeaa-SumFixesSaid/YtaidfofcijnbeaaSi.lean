/- A number's bytes; the sum of bytes and of numbers behind them. -/
import Derived.Test.YtaidfofcijnbeaaSh
namespace Go.Proofs.Ytaidfofcijnbeaa
set_option linter.unusedVariables false
set_option linter.unusedSimpArgs false
set_option linter.unnecessarySimpa false
open Go.RowKit
namespace Crc
def wbl (U : Nat) : Nat → List (BitVec 8)
  | 0 => []
  | j + 1 => wbl U j ++ [BitVec.ofNat 8 (U / 2 ^ (8 * j))]
theorem wbl_len (U : Nat) : ∀ j, (wbl U j).length = j
  | 0 => rfl
  | j + 1 => by simp [wbl, wbl_len U j]
theorem bys_len (l : List (BitVec 8)) : (bys l).length = l.length := by simp [bys]
/-- A word as a number without a sign. -/
def uns (w : Int) : Nat := (IntKind.u64.wrap w).toNat
theorem uns_eq (w : Int) : IntKind.u64.wrap w = (uns w : Int) := by
  unfold uns
  rw [IntKind.wrap_u64]; omega
theorem uns_lt (w : Int) : uns w < 18446744073709551616 := by
  unfold uns
  rw [IntKind.wrap_u64]; omega
theorem quo_facts (U j : Nat) (hU : U < 18446744073709551616) : ∃ q B : Int, (U : Int) / 2 ^ (8 * j) = q ∧ 0 ≤ q ∧ q < 18446744073709551616 ∧ q % 256 = B ∧ 0 ≤ B ∧ B < 256 ∧ bys (wbl U j) ++ [.int .u8 B] = bys (wbl U (j + 1)) ∧ q = ((U / 2 ^ (8 * j) : Nat) : Int) ∧ ((U / 2 ^ (8 * (j + 1)) : Nat) : Int) = q / 256 := by
  have h : (U : Int) / 2 ^ (8 * j) = ((U / 2 ^ (8 * j) : Nat) : Int) := by rw [Int.natCast_ediv]; congr 1
  have h2 : U / 2 ^ (8 * j) ≤ U := Nat.div_le_self _ _
  have e : U / 2 ^ (8 * (j + 1)) = U / 2 ^ (8 * j) / 256 := by
    have e : 2 ^ (8 * (j + 1)) = 2 ^ (8 * j) * 256 := by rw [Nat.mul_add, Nat.pow_add]
    rw [e, Nat.div_div_eq_div_mul]
  have hb : bys (wbl U (j + 1)) = bys (wbl U j) ++ [.int .u8 ((U / 2 ^ (8 * j) % 256 : Nat) : Int)] := by
    simp only [wbl, bys, List.map_append, List.map_cons, List.map_nil, BitVec.toNat_ofNat]
  rw [e, hb]
  obtain ⟨Q, hQ⟩ : ∃ Q, U / 2 ^ (8 * j) = Q := ⟨_, rfl⟩
  rw [hQ] at h h2 ⊢
  exact ⟨Q, ((Q % 256 : Nat) : Int), h, by omega, by omega, by omega, by omega, by omega, rfl, rfl, by omega⟩
/-- The sum, and words behind it. -/
def marks (c : BitVec 32) (ws : List Int) : BitVec 32 := ws.foldl (fun c w => more c (wbl (uns w) 8)) c
theorem marks_succ (c : BitVec 32) (ws : List Int) (j : Nat) {w : Int} (h : ws[j]? = some w) : marks c (ws.take (j + 1)) = more (marks c (ws.take j)) (wbl (uns w) 8) := by
  unfold marks
  rw [List.take_add_one, h, List.foldl_append]; rfl
end Crc
theorem Bs_row_wb {w0 w : World} {L : List Ent} {g cap U : Nat} (HO : Own w0 w ((g, RowP 5 1 cap (Crc.bys (Crc.wbl U 8))) :: L)) : Bs w (.slice (some ⟨g, 0, none⟩) 8 cap) (Crc.wbl U 8) := Bs_row 0 HO rfl (Crc.wbl_len U 8)
set_option maxRecDepth 20000 in
set_option maxHeartbeats 8000000 in
theorem Bytes_any {w0 w : World} {L : List Ent} (x : Int) (HO : Own w0 w L) :
    Calls Try.prog 22 #[.int .i64 x] w fun e w' => ∃ g cap, e = .returned (.slice (some ⟨g, 0, none⟩) 8 cap) ∧ Own w0 w' ((g, RowP 5 1 cap (Crc.bys (Crc.wbl (Crc.uns x) 8))) :: L) := by
  have hu := Crc.uns_eq x
  have hul := Crc.uns_lt x
  obtain ⟨U, hU⟩ : ∃ U, Crc.uns x = U := ⟨_, rfl⟩
  rw [hU] at hu hul
  have HU := Lib.hid hU
  obtain ⟨V, hV⟩ : ∃ V : Int, (U : Int) = V := ⟨_, rfl⟩
  have hUL : U < 18446744073709551616 := hul
  rw [hV] at hu
  have hv0 : 0 ≤ V := by omega
  have hv1 : V < 18446744073709551616 := by omega
  have HV := Lib.hid hV
  clear hU hV
  go_enter Try.func22, Try.ntmps22
  go_wp2
  go_loopg [3, 4, 5] 8 (fun k x3 x4 x wr => ∃ (j : Nat) (q : Int), x = .int .i64 (j : Int) ∧ j ≤ 8 ∧ k = 8 - j ∧ x4 = .int .u64 q ∧ q = ((U / 2 ^ (8 * j) : Nat) : Int) ∧ ((j = 0 ∧ x3 = .slice none 0 0 ∧ Own w0 wr L) ∨ (0 < j ∧ ∃ g cap, x3 = .slice (some ⟨g, 0, none⟩) j cap ∧ Own w0 wr ((g, RowP 5 1 cap (Crc.bys (Crc.wbl U j))) :: L))))
  case atStart => exact ⟨0, V, by rfl, by omega, by omega, rfl, by rw [← HV.out]; simp, .inl ⟨rfl, rfl, HO⟩⟩
  case round =>
    clear HO
    obtain ⟨j, q, rfl, j1, hk, rfl, hq, hc⟩ := hrel
    rcases Nat.lt_or_ge j 8 with hj | hj
    · have hd : decide ((j : Int) < 8) = true := decide_eq_true (by omega)
      have hw1 : IntKind.i64.wrap ((j : Int) + 1) = ((j + 1 : Nat) : Int) := by rw [IntWalk.i64_in _ (by omega)]; rfl
      obtain ⟨q', B, e1, q0, q1, e2, b0, b1, e3, e4, e5⟩ := Crc.quo_facts U j hUL
      obtain rfl : q = q' := by rw [hq, e4]
      have H3 := Lib.hid e3
      have H5 := Lib.hid e5
      have HL := Lib.hid ((Crc.bys_len (Crc.wbl U j)).trans ((Crc.wbl_len U j).trans (Nat.mul_one j).symm))
      clear e1 e3 e4 e5 hq hu
      have hm1 : q.tmod 256 = q % 256 := Int.tmod_eq_emod_of_nonneg q0
      have hm2 : q.tdiv 256 = q / 256 := Int.tdiv_eq_ediv_of_nonneg q0
      rcases hc with ⟨rfl, rfl, HO⟩ | ⟨hj0, g, cap, rfl, HO⟩
      · go_wp2_with (first | (refine li_bslice 22 1 rfl rfl (by go_simp; rfl) rfl (by decide) HO ?_; clear HO; intro gn w1 HO) | (refine li_append_nil1 el22 rfl rfl rfl HO rfl rfl rfl (by decide) (by decide) (by decide) ?_; clear HO; intro gq cq wq hcq HO))
        have h3 : [Value.int .u8 B] = Crc.bys (Crc.wbl U 1) := H3.out
        rw [h3] at HO
        go_roundg 7
        case measure => omega
        case rel => exact ⟨1, q / 256, by rfl, by omega, rfl, rfl, H5.out.symm, .inr ⟨by omega, gq, cq, rfl, HO⟩⟩
      · go_wp2_with (first | (refine li_bslice 22 1 rfl rfl (by go_simp; rfl) rfl (by decide) HO ?_; clear HO; intro gn w1 HO) | (refine li_append_row1 0 el22 rfl rfl rfl HO rfl HL.out rfl rfl rfl (by decide) (by have : maxLen = 9223372036854775807 := rfl; omega) (by omega) ?_; clear HO; intro gq cq wq hcq HO))
        rw [H3.out] at HO
        go_roundg (8 - (j + 1))
        case measure => omega
        case rel => exact ⟨j + 1, q / 256, by rfl, by omega, rfl, rfl, H5.out.symm, .inr ⟨by omega, gq, cq, rfl, HO⟩⟩
    · obtain rfl : j = 8 := by omega
      rcases hc with ⟨h0, _⟩ | ⟨hj0, g, cap, rfl, HO⟩
      · omega
      have hU := HU.out
      clear hq
      go_wp2_with (fail)
      go_ret
      exact ⟨g, cap, rfl, by rw [HU.out]; exact HO⟩
def wordRow (k : Int) : List Value := [.int .i64 k]
theorem argS_word {w : World} {v : Value} {keys : List Int} (h : ArgS w 1 v (keys.map wordRow)) : ∃ (ao : Option Addr) (cap : Nat), v = .slice ao keys.length cap ∧ keys.length ≤ maxLen ∧ ∀ (i : Nat) (k : Int), keys[i]? = some k → ∃ a, ao = some a ∧ w.cell? (a.add i) = some (.int .i64 k) := by
  obtain ⟨ao, cap, rfl, h1, h2, h3⟩ := h
  refine ⟨ao, cap, by simp, by simp at h1; omega, fun i k hk => ?_⟩
  obtain ⟨a, rfl, hc⟩ := h3 i (wordRow k) (by simp [hk])
  refine ⟨a, rfl, ?_⟩
  have := hc 0 (.int .i64 k) rfl
  simpa [Addr.add] using this
set_option maxRecDepth 20000 in
set_option maxHeartbeats 8000000 in
theorem RMark_any {w : World} {v v2 : Value} {l : List (BitVec 8)} {ws : List Int} (hl : Bs w v l) (h2 : ArgS w 1 v2 (ws.map wordRow)) :
    Calls Try.prog 16 #[v, v2] w fun e w' => e = .returned (Crc.vi (Crc.marks (Crc.crc l) ws)) ∧ Below w.heap.size w w' := by
  have HB := Lib.hid hl
  obtain ⟨ao, cap, rfl, hc1, hrd⟩ := argS_word h2
  obtain ⟨n, hn⟩ : ∃ n, ws.length = n := ⟨_, rfl⟩
  have hmx : maxLen = 9223372036854775807 := rfl
  rw [hn] at hc1 ⊢
  have hnb : n ≤ 9223372036854775807 := by omega
  clear hmx
  obtain ⟨c, hc⟩ : ∃ c, Crc.crc l = c := ⟨_, rfl⟩
  rw [hc]
  have HC := Lib.hid hc
  have HO := Own.nil w
  clear hc hl h2
  go_enter Try.func16, Try.ntmps16
  go_wp2_with (go_at_call 10; (with_reducible refine (ROf_any HB.out).mono ?_); rw [HC.out]; rintro e w2 ⟨rfl, rfl⟩)
  go_loopg [5, 6] n (fun k x5 x wr => ∃ j : Nat, x = .int .i64 (j : Int) ∧ j ≤ n ∧ k = n - j ∧ x5 = Crc.vi (Crc.marks c (ws.take j)) ∧ Own w wr [])
  case atStart => exact ⟨0, by rfl, by omega, by omega, rfl, HO⟩
  case round =>
    clear HO
    obtain ⟨j, rfl, j1, hk, rfl, HO⟩ := hrel
    rcases Nat.lt_or_ge j n with hj | hj
    · have hd : decide ((j : Int) < (n : Int)) = true := decide_eq_true (by omega)
      have hw1 : IntKind.i64.wrap ((j : Int) + 1) = ((j + 1 : Nat) : Int) := by rw [IntWalk.i64_in _ (by omega)]; rfl
      have hb0 : (0 : Int) ≤ (j : Int) := by omega
      have hb1 : (j : Int) < (n : Int) := by omega
      obtain ⟨x, e1⟩ : ∃ k, ws[j]? = some k := ⟨_, List.getElem?_eq_getElem (by omega)⟩
      obtain ⟨ad, rfl, hcl⟩ := hrd j x e1
      have hst := Crc.marks_succ c ws j e1
      obtain ⟨H, hH⟩ : ∃ H, Crc.marks c (ws.take j) = H := ⟨_, rfl⟩
      rw [hH] at hst ⊢
      obtain ⟨M, hM⟩ : ∃ M, Crc.more H (Crc.wbl (Crc.uns x) 8) = M := ⟨_, rfl⟩
      rw [hM] at hst
      have HS := Lib.hid hst
      have HM := Lib.hid hM
      clear hst hH e1 hM hn
      go_wp2_with (first | (refine li_loadAt 2 rfl rfl rfl (HO.old hcl) (by kernel_rfl) ?_) | (go_at_call 22; (with_reducible refine (Bytes_any x HO).mono ?_); rintro e w2 ⟨g, cg, rfl, HO1⟩; clear HO; have HO := HO1; clear HO1) | (go_at_call 12; (with_reducible refine (RMore_any H (Bs_row_wb HO)).mono ?_); rw [HM.out]; rintro e w2 ⟨rfl, rfl⟩))
      have HO1 := HO.tail
      go_roundg (n - (j + 1))
      case measure => omega
      case rel => exact ⟨j + 1, rfl, by omega, rfl, by rw [HS.out], HO1⟩
    · obtain rfl : j = n := by omega
      have hd : decide ((j : Int) < (j : Int)) = false := by simp
      rw [List.take_of_length_le (by omega)]
      obtain ⟨H, hH⟩ : ∃ H, Crc.marks c ws = H := ⟨_, rfl⟩
      rw [hH]
      have HS := Lib.hid hH
      clear hH hn
      go_wp2_with (fail)
      go_ret
      exact ⟨by rw [HS.out]; rfl, HO.below⟩
end Go.Proofs.Ytaidfofcijnbeaa

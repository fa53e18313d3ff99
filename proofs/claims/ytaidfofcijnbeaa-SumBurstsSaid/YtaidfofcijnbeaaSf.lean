/- The four bytes that make a sum another one. -/
import Derived.Test.YtaidfofcijnbeaaSe
namespace Go.Proofs.Ytaidfofcijnbeaa
set_option linter.unusedVariables false
set_option linter.unusedSimpArgs false
set_option linter.unnecessarySimpa false
open Go.RowKit
namespace Crc
def Found (want : BitVec 32) : List Nat → BitVec 32 → Prop
  | [], reg => reg = want
  | k :: ks, reg => ∃ r, Found want ks r ∧ k < 256 ∧ (tab k).toNat / 16777216 = r.toNat / 16777216 ∧ reg = back r k
theorem found_four {want reg : BitVec 32} {ks : List Nat} (h : Found want ks reg) (hl : ks.length = 4) (s : BitVec 32) : ahead s ks = want ∧ ∀ k ∈ ks, k < 256 := by
  match ks, hl with
  | [k0, k1, k2, k3], _ =>
    obtain ⟨r0, ⟨r1, ⟨r2, ⟨r3, hr3, a3, b3, rfl⟩, a2, b2, rfl⟩, a1, b1, rfl⟩, a0, b0, rfl⟩ := h
    simp only [Found] at hr3
    subst hr3
    refine ⟨four s r3 k0 k1 k2 k3 b3 b2 b1 b0, ?_⟩
    intro k hk
    simp at hk
    omega
theorem back_val (reg : BitVec 32) (k : Nat) : ∃ Y Z : Int, bits .xor .u32 (reg.toNat : Int) ((tab k).toNat : Int) = Y ∧ 0 ≤ Y ∧ Y < 4294967296 ∧ Y * 256 % 4294967296 = Z ∧ Z = ((back reg k).toNat : Int) := by
  have h1 := xor_v reg (tab k)
  have h2 := (reg ^^^ tab k).isLt
  refine ⟨_, _, h1, by omega, by omega, rfl, ?_⟩
  unfold back
  rw [BitVec.toNat_shiftLeft, Nat.shiftLeft_eq]
  omega
theorem on_val (reg : BitVec 32) (k : Nat) (hk : k < 256) : ∃ (b : BitVec 8) (reg' : BitVec 32), by8 reg b = reg' ∧ reg' = (reg >>> 8) ^^^ tab k ∧ bits .xor .u8 ((reg.toNat : Int) % 256) (k : Int) = (b.toNat : Int) ∧ bits .xor .u32 ((tab k).toNat : Int) ((reg.toNat : Int) / 256) = (reg'.toNat : Int) := by
  have hr := reg.isLt
  have ht := (tab k).isLt
  refine ⟨reg.setWidth 8 ^^^ BitVec.ofNat 8 k, (reg >>> 8) ^^^ tab k, ?_, rfl, ?_, ?_⟩
  · rw [by8_tab]
    have e : (reg.setWidth 8 ^^^ (reg.setWidth 8 ^^^ BitVec.ofNat 8 k)).toNat = k := by
      rw [← BitVec.xor_assoc, BitVec.xor_self, BitVec.zero_xor, BitVec.toNat_ofNat]
      omega
    rw [e]
  · have e1 : (reg.toNat : Int) % 256 = ((reg.toNat % 256 : Nat) : Int) := by omega
    rw [e1, u8_xor_nat _ _ (by omega) hk, BitVec.toNat_xor, BitVec.toNat_setWidth, BitVec.toNat_ofNat]
    congr 2
    omega
  · have e1 : (reg.toNat : Int) / 256 = ((reg.toNat / 256 : Nat) : Int) := by omega
    rw [e1, xor_nat _ _ (by omega) (by omega), BitVec.toNat_xor, BitVec.toNat_ushiftRight, Nat.shiftRight_eq_div_pow, Nat.xor_comm]
def u8s (ks : List Nat) : List Value := ks.map fun k : Nat => .int .u8 (k : Int)
def bys (l : List (BitVec 8)) : List Value := l.map fun b => .int .u8 (b.toNat : Int)
theorem u8s_len (ks : List Nat) : (u8s ks).length = ks.length := by simp [u8s]
theorem u8s_put (m : Nat) (ks : List Nat) (k : Nat) : (u8s (List.replicate (m + 1) 0 ++ ks)).set m (.int .u8 (k : Int)) = u8s (List.replicate m 0 ++ k :: ks) := by
  apply List.ext_getElem?
  intro i
  rw [List.getElem?_set]
  simp only [u8s, List.map_append, List.map_replicate, List.map_cons]
  by_cases e : m = i
  · subst e
    rw [if_pos rfl, if_pos (by simp; omega), List.getElem?_append_right (by simp)]
    simp
  · rw [if_neg e]
    rcases Nat.lt_or_ge i m with h | h
    · rw [List.getElem?_append_left (by simp; omega), List.getElem?_append_left (by simp; omega)]
      simp [h, Nat.lt_succ_of_lt h]
    · rw [List.getElem?_append_right (by simp; omega), List.getElem?_append_right (by simp; omega)]
      simp only [List.length_replicate]
      rw [show i - m = (i - (m + 1)) + 1 by omega, List.getElem?_cons_succ]
end Crc
section
variable {P : Program} {ops : Array Oper} {rest : List Oper} {o : Oper} {a : Act} {Q : Exit → Act → World → Prop} {w0 W : World} {L : List Ent}
/-- A slice that holds nothing, with room for so many. -/
theorem li_make0 {t e : TypeId} {x y : Operand} {z : Value} {bytes n : Nat} (hE : Elem P t e 1 bytes z) (ho : o.op = .makeSlice t x y) (hw : Region.wanted o (yielded ops a.tmps) = true) {k1 k2 : IntKind} (hx : a.eval x = .int k1 0) (hy : a.eval y = .int k2 (n : Int)) (hb : bytes * n ≤ 281474976710656) (hm : n ≤ maxLen) (HO : Own w0 W L)
    (h : ∀ g w1, Own w0 w1 ((g, RowP e 1 n []) :: L) → wpList P ops Q rest (a.put o.dst (.slice (some ⟨g, 0, none⟩) 0 n)) w1) : wpList P ops Q (o :: rest) a W := by
  obtain ⟨inf, hi, hz, hsz, hby⟩ := hE.info
  have hml : maxLen = 9223372036854775807 := rfl
  have hb' : (inf.bytes : Int) * (n : Int) ≤ 281474976710656 := by
    rw [hby]
    have h : ((bytes * n : Nat) : Int) ≤ 281474976710656 := by omega
    rwa [Int.natCast_mul] at h
  have hr := run_make (P := P) W t e inf z hE.und hi hz k1 k2 0 n (Int.le_refl _) (by omega) hb' (by omega)
  simp only [Int.toNat_natCast, hsz, Nat.mul_one] at hr
  have HO1 : Own w0 (W.alloc (.cells (madeCells z.cells n) e)) ((W.heap.size, RowP e 1 n []) :: L) := HO.alloc _ ⟨_, rfl, List.nil_prefix, by simp [size_madeCells], hm⟩
  refine ev_list hw fun K hK => wp_run ?_ (hK _ _ (h _ _ HO1))
  unfold execOp
  simp only [ho, hx, hy, Sem.run_bind, Sem.run_pure, Result.andThen_ok, hr]
  rfl
end
theorem step_nat (k : Nat) (hk : k < 4294967296) (w : World) :
    Calls Try.prog 17 #[.int .u32 (k : Int)] w fun e w' => e = .returned (Crc.vi (Crc.tab k)) ∧ w = w' := by
  have := step_any (BitVec.ofNat 32 k) w
  have e : (BitVec.ofNat 32 k).toNat = k := by rw [BitVec.toNat_ofNat]; omega
  unfold Crc.vi at this
  rw [e] at this
  exact this
theorem el22 : Elem Try.prog 22 5 1 1 (.int .u8 0) := elem_mk (by kernel_rfl) (by kernel_rfl) rfl (by decide)
set_option maxRecDepth 20000 in
set_option maxHeartbeats 16000000 in
theorem Fix_any {w0 w : World} {L : List Ent} (s want : BitVec 32) (HO : Own w0 w L) :
    Calls Try.prog 14 #[Crc.vi s, Crc.vi want] w fun e w' => ∃ g cap l, e = .returned (.slice (some ⟨g, 0, none⟩) 4 cap) ∧ l.length = 4 ∧ Crc.fold (~~~ s) l = ~~~ want ∧ Own w0 w' ((g, RowP 5 1 cap (Crc.bys l)) :: L) := by
  have hsg := Crc.u32_sg
  have hmm := Crc.u32_mx
  have hnx := Crc.not_x s
  have hny := Crc.not_x want
  obtain ⟨ns, hns⟩ : ∃ x, ~~~ s = x := ⟨_, rfl⟩
  obtain ⟨nt, hnt⟩ : ∃ x, ~~~ want = x := ⟨_, rfl⟩
  rw [hns] at hnx
  rw [hnt] at hny
  have HS := Lib.hid hns
  have HT := Lib.hid hnt
  have hnl := Crc.vlt ns
  have htl := Crc.vlt nt
  have hsl := Crc.vlt s
  have hwl := Crc.vlt want
  clear hns hnt
  go_enter Try.func14, Try.ntmps14
  go_wp2_with (first | (refine li_alloc (t := 44) rfl rfl (z := .agg #[.int .u8 0, .int .u8 0, .int .u8 0, .int .u8 0]) (cs := [.int .u8 0, .int .u8 0, .int .u8 0, .int .u8 0]) (by kernel_rfl) rfl HO ?_; clear HO; (first | (have h_ : gh = gh := rfl; clear h_; intro gi wi HO) | (have h_ : gg = gg := rfl; clear h_; intro gh wh HO) | (have h_ : gf = gf := rfl; clear h_; intro gg wg HO) | (have h_ : ge = ge := rfl; clear h_; intro gf wf HO) | (have h_ : gd = gd := rfl; clear h_; intro ge we HO) | (have h_ : gc = gc := rfl; clear h_; intro gd wd HO) | (have h_ : gb = gb := rfl; clear h_; intro gc wc HO) | (have h_ : ga = ga := rfl; clear h_; intro gb wb HO) | intro ga wa HO)) | ((with_reducible refine gate_store 5 rfl ?_); first | (refine li_storeInt 0 5 rfl rfl rfl rfl HO rfl rfl (by simp) (by kernel_rfl) ?_; clear HO; intro ws HO; (try simp only [List.set_cons_zero, List.set_cons_succ] at HO))) | ((with_reducible refine gate_load 44 rfl ?_); first | (refine li_loadWhole 0 44 4 rfl rfl rfl HO rfl rfl (by kernel_rfl) (by kernel_rfl) (by kernel_rfl) ?_)))
  go_loopg [6, 7] 4 (fun k x6 x wr => ∃ (m : Nat) (ks : List Nat) (reg : BitVec 32) (R : Int), x = .int .i64 ((m : Int) - 1) ∧ m ≤ 4 ∧ k = m ∧ x6 = .int .u32 R ∧ (reg.toNat : Int) = R ∧ ks.length = 4 - m ∧ Crc.Found nt ks reg ∧ Own w0 wr ((ga, CellsP 44 (Crc.u8s (List.replicate m 0 ++ ks))) :: L))
  case atStart => exact ⟨4, [], nt, _, by rfl, by omega, by omega, rfl, rfl, rfl, rfl, HO⟩
  case round =>
    clear HO
    obtain ⟨m, ks, reg, R, rfl, j1, hk, rfl, hR, hkl, hf, HO⟩ := hrel
    match m, j1, hk, hkl, HO with
    | m + 1, j1, hk, hkl, HO =>
      have hm1 : (((m + 1 : Nat) : Int) - 1) = (m : Int) := by omega
      rw [hm1]
      have hd : decide ((0 : Int) ≤ (m : Int)) = true := decide_eq_true (by omega)
      have hw1 : IntKind.i64.wrap ((m : Int) - 1) = (m : Int) - 1 := IntWalk.i64_in _ (by omega)
      have hrl := Crc.vlt reg
      rw [hR] at hrl
      have hR0 : 0 ≤ R := by omega
      have HR := Lib.hid hR
      clear hR
      have hset := fun k => Crc.u8s_put m ks k
      have hlen := Crc.u8s_len (List.replicate (m + 1) 0 ++ ks)
      simp only [List.length_append, List.length_replicate] at hlen
      clear hnx hny
      go_wp2_with (fail)
      go_loopg [6, 19] 256 (fun k x6 x wr => ∃ (i : Nat), x = .int .u32 (i : Int) ∧ x6 = .int .u32 R ∧ i ≤ 256 ∧ k = 256 - i ∧ (∀ i', i' < i → (Crc.tab i').toNat / 16777216 ≠ reg.toNat / 16777216) ∧ Own w0 wr ((ga, CellsP 44 (Crc.u8s (List.replicate (m + 1) 0 ++ ks))) :: L))
      case atStart => exact ⟨0, by rfl, rfl, by omega, by omega, fun _ h => by omega, HO⟩
      case round =>
        clear HO
        obtain ⟨i, rfl, rfl, i1, hki, hno, HO⟩ := hrel
        rcases Nat.lt_or_ge i 256 with hi | hi
        · have hd2 : decide ((i : Int) < 256) = true := decide_eq_true (by omega)
          have hw2 : IntKind.u32.wrap ((i : Int) + 1) = ((i + 1 : Nat) : Int) := by rw [IntWalk.u32_in _ (by omega)]; rfl
          have hw3 : IntKind.u8.wrap (i : Int) = (i : Int) := IntWalk.u8_in _ (by omega)
          obtain ⟨Y, Z, hY, y0, y1, hZ, hZ2⟩ := Crc.back_val reg i
          have hx := Crc.vlt (Crc.tab i)
          have hb0 : (0 : Int) ≤ (m : Int) := by omega
          have hb1 : (m : Int) < 4 := by omega
          by_cases he : (Crc.tab i).toNat / 16777216 = reg.toNat / 16777216
          · have hR := HR.out
            have hf2 : Crc.Found nt (i :: ks) (Crc.back reg i) := ⟨reg, hf, hi, he, rfl⟩
            obtain ⟨X, hX⟩ : ∃ X : Int, ((Crc.tab i).toNat : Int) = X := ⟨_, rfl⟩
            have hst : ∀ w, Calls Try.prog 17 #[.int .u32 (i : Int)] w fun e w' => e = .returned (.int .u32 X) ∧ w = w' := fun w => by rw [← hX]; exact step_nat i (by omega) w
            have hq1 : (X / 16777216 == R / 16777216) = true := by simp; omega
            rw [hX] at hx hY
            rw [hR] at hY
            have HF := Lib.hid hf2
            have HS := Lib.hid (hset i)
            have HZ := Lib.hid hZ2
            have hX0 : 0 ≤ X := by omega
            clear hX hR hf hf2 hset hZ2 he hno
            go_wp2_with (first | (go_at_call 17; refine (hst _).mono ?_; rintro e w2 ⟨rfl, rfl⟩) | (refine li_storeInt 0 5 rfl rfl rfl (off := m) rfl HO rfl rfl (by omega) (by kernel_rfl) ?_; clear HO; intro ws HO; simp only [List.set_cons_zero] at HO))
            rw [HS.out] at HO
            go_roundg m
            case measure => omega
            case rel => exact ⟨m, i :: ks, _, _, by rfl, by omega, rfl, by rw [hZ], HZ.out.symm, by simp; omega, HF.out, HO⟩
          · have hR := HR.out
            obtain ⟨X, hX⟩ : ∃ X : Int, ((Crc.tab i).toNat : Int) = X := ⟨_, rfl⟩
            have hst : ∀ w, Calls Try.prog 17 #[.int .u32 (i : Int)] w fun e w' => e = .returned (.int .u32 X) ∧ w = w' := fun w => by rw [← hX]; exact step_nat i (by omega) w
            have hq1 : (X / 16777216 == R / 16777216) = false := by simp; omega
            rw [hX] at hx hY
            have hX0 : 0 ≤ X := by omega
            have hno2 : ∀ i', i' < i + 1 → (Crc.tab i').toNat / 16777216 ≠ reg.toNat / 16777216 := fun i' h => by
              rcases Nat.lt_or_ge i' i with h2 | h2
              · exact hno i' h2
              · obtain rfl : i' = i := by omega
                exact he
            have HN := Lib.hid hno2
            clear hX hR hf hset hZ2 he hno hY hZ hno2
            go_wp2_with (go_at_call 17; refine (hst _).mono ?_; rintro e w2 ⟨rfl, rfl⟩)
            go_roundg (256 - (i + 1))
            case measure => omega
            case rel => exact ⟨i + 1, rfl, rfl, by omega, rfl, HN.out, HO⟩
        · exfalso
          have := HR.out
          have hrb := reg.isLt
          obtain ⟨k, hk1, hk2⟩ := Crc.tab_hit (reg.toNat / 16777216) (by omega)
          exact hno k (by omega) hk2
    | 0, j1, hk, hkl, HO =>
      obtain ⟨hah, hks⟩ := Crc.found_four hf (by omega) ns
      match ks, hkl, hah, hks, HO with
      | [k0, k1, k2, k3], hkl, hah, hks, HO =>
      have hk0 := hks k0 (by simp)
      have hk1 := hks k1 (by simp)
      have hk2 := hks k2 (by simp)
      have hk3 := hks k3 (by simp)
      have HA := Lib.hid hah
      clear hah hks hf hny hkl
      have hd : decide ((0 : Int) ≤ ((0 : Nat) : Int) - 1) = false := by decide
      have e0 : Crc.u8s (List.replicate 0 0 ++ [k0, k1, k2, k3]) = [.int .u8 (k0 : Int), .int .u8 (k1 : Int), .int .u8 (k2 : Int), .int .u8 (k3 : Int)] := rfl
      rw [e0] at HO
      clear e0
      go_wp2_with (first | (refine li_make0 (n := 4) el22 rfl rfl rfl rfl (by decide) (by decide) HO ?_; clear HO; intro go wo HO) | (refine li_loadWhole 1 44 4 rfl rfl rfl HO rfl rfl (by kernel_rfl) (by kernel_rfl) (by kernel_rfl) ?_))
      go_loopg [6, 10, 42] 4 (fun k x6 x10 x wr => ∃ (j : Nat) (l : List (BitVec 8)) (reg : BitVec 32) (R : Int) (g cap : Nat), x = .int .i64 (j : Int) ∧ j ≤ 4 ∧ k = 4 - j ∧ x6 = .int .u32 R ∧ (reg.toNat : Int) = R ∧ l.length = j ∧ x10 = .slice (some ⟨g, 0, none⟩) j cap ∧ Crc.fold ns l = reg ∧ Crc.ahead reg ([k0, k1, k2, k3].drop j) = nt ∧ Own w0 wr ((g, RowP 5 1 cap (Crc.bys l)) :: L))
      case atStart => exact ⟨0, [], ns, _, go, 4, by rfl, by omega, by omega, rfl, rfl, rfl, rfl, rfl, HA.out, HO.sub (.cons_cons _ (.cons _ (List.Sublist.refl _)))⟩
      case round =>
        clear HO hR
        obtain ⟨j, l, reg, R, g, cap, rfl, j1, hk, rfl, hR, hl, rfl, hfo, hah, HO⟩ := hrel
        have hlb : (Crc.bys l).length = l.length := by simp [Crc.bys]
        rcases (show j = 0 ∨ j = 1 ∨ j = 2 ∨ j = 3 ∨ j = 4 by omega) with rfl | rfl | rfl | rfl | rfl
        rotate_right
        · go_wp2_with (fail)
          go_ret
          refine ⟨g, cap, l, rfl, hl, ?_, HO⟩
          rw [HS.out, HT.out, hfo]
          exact hah
        · obtain ⟨b, reg', hb1, hb2, hx8, hx32⟩ := Crc.on_val reg k0 hk0
          have hfo2 : Crc.fold ns (l ++ [b]) = reg' := by rw [Crc.fold_append, hfo]; exact hb1
          have hah2 : Crc.ahead reg' ([k0, k1, k2, k3].drop 1) = nt := by rw [hb2]; exact hah
          have hrl := Crc.vlt reg
          have hrl' := Crc.vlt reg'
          have hbl : (b.toNat : Int) < 256 := by have := b.isLt; omega
          have hxl := Crc.vlt (Crc.tab k0)
          obtain ⟨X, hX⟩ : ∃ X : Int, ((Crc.tab k0).toNat : Int) = X := ⟨_, rfl⟩
          have hst : ∀ w, Calls Try.prog 17 #[.int .u32 (k0 : Int)] w fun e w' => e = .returned (.int .u32 X) ∧ w = w' := fun w => by rw [← hX]; exact step_nat k0 (by omega) w
          obtain ⟨R', hR'⟩ : ∃ R' : Int, (reg'.toNat : Int) = R' := ⟨_, rfl⟩
          obtain ⟨B, hB⟩ : ∃ B : Int, (b.toNat : Int) = B := ⟨_, rfl⟩
          have hbs : Crc.bys l ++ [.int .u8 B] = Crc.bys (l ++ [b]) := by rw [← hB]; simp [Crc.bys]
          rw [hR] at hx8 hx32 hrl
          rw [hX] at hx32 hxl
          rw [hR'] at hx32 hrl'
          rw [hB] at hx8 hbl
          have hR0 : 0 ≤ R := by omega
          have hX0 : 0 ≤ X := by omega
          have hB0 : 0 ≤ B := by omega
          have hw8 : IntKind.u32.wrap (k0 : Int) = (k0 : Int) := IntWalk.u32_in _ (by omega)
          have HB := Lib.hid hbs
          have HF := Lib.hid hfo2
          have HA2 := Lib.hid hah2
          have HR' := Lib.hid hR'
          have HL : (Crc.bys l).length = 0 * 1 := by omega
          have HL2 := Lib.hid HL
          have hl2 := Lib.hid hl
          clear hbs hfo2 hah2 hR hR' hX hB hb1 hb2 hfo hah hlb HL hl hnx
          go_wp2_with (first | (refine li_index 44 5 4 0 rfl rfl rfl rfl rfl (by kernel_rfl) (by kernel_rfl) (by kernel_rfl) (by kernel_rfl) (by decide) ?_) | (refine li_bslice 22 1 rfl rfl (by go_simp; rfl) rfl (by decide) HO ?_; clear HO; intro gn w1 HO) | (refine li_append_row1 0 el22 rfl rfl rfl HO rfl HL2.out rfl rfl rfl (by decide) (by decide) (by decide) ?_; clear HO; intro gq cq wq hcq HO) | (go_at_call 17; refine (hst _).mono ?_; rintro e w2 ⟨rfl, rfl⟩))
          rw [HB.out] at HO
          go_roundg 3
          case measure => omega
          case rel => exact ⟨1, l ++ [b], reg', _, _, _, by rfl, by omega, rfl, rfl, HR'.out, by rw [List.length_append, hl2.out]; rfl, rfl, HF.out, HA2.out, HO⟩
        · obtain ⟨b, reg', hb1, hb2, hx8, hx32⟩ := Crc.on_val reg k1 hk1
          have hfo2 : Crc.fold ns (l ++ [b]) = reg' := by rw [Crc.fold_append, hfo]; exact hb1
          have hah2 : Crc.ahead reg' ([k0, k1, k2, k3].drop 2) = nt := by rw [hb2]; exact hah
          have hrl := Crc.vlt reg
          have hrl' := Crc.vlt reg'
          have hbl : (b.toNat : Int) < 256 := by have := b.isLt; omega
          have hxl := Crc.vlt (Crc.tab k1)
          obtain ⟨X, hX⟩ : ∃ X : Int, ((Crc.tab k1).toNat : Int) = X := ⟨_, rfl⟩
          have hst : ∀ w, Calls Try.prog 17 #[.int .u32 (k1 : Int)] w fun e w' => e = .returned (.int .u32 X) ∧ w = w' := fun w => by rw [← hX]; exact step_nat k1 (by omega) w
          obtain ⟨R', hR'⟩ : ∃ R' : Int, (reg'.toNat : Int) = R' := ⟨_, rfl⟩
          obtain ⟨B, hB⟩ : ∃ B : Int, (b.toNat : Int) = B := ⟨_, rfl⟩
          have hbs : Crc.bys l ++ [.int .u8 B] = Crc.bys (l ++ [b]) := by rw [← hB]; simp [Crc.bys]
          rw [hR] at hx8 hx32 hrl
          rw [hX] at hx32 hxl
          rw [hR'] at hx32 hrl'
          rw [hB] at hx8 hbl
          have hR0 : 0 ≤ R := by omega
          have hX0 : 0 ≤ X := by omega
          have hB0 : 0 ≤ B := by omega
          have hw8 : IntKind.u32.wrap (k1 : Int) = (k1 : Int) := IntWalk.u32_in _ (by omega)
          have HB := Lib.hid hbs
          have HF := Lib.hid hfo2
          have HA2 := Lib.hid hah2
          have HR' := Lib.hid hR'
          have HL : (Crc.bys l).length = 1 * 1 := by omega
          have HL2 := Lib.hid HL
          have hl2 := Lib.hid hl
          clear hbs hfo2 hah2 hR hR' hX hB hb1 hb2 hfo hah hlb HL hl hnx
          go_wp2_with (first | (refine li_index 44 5 4 1 rfl rfl rfl rfl rfl (by kernel_rfl) (by kernel_rfl) (by kernel_rfl) (by kernel_rfl) (by decide) ?_) | (refine li_bslice 22 1 rfl rfl (by go_simp; rfl) rfl (by decide) HO ?_; clear HO; intro gn w1 HO) | (refine li_append_row1 0 el22 rfl rfl rfl HO rfl HL2.out rfl rfl rfl (by decide) (by decide) (by decide) ?_; clear HO; intro gq cq wq hcq HO) | (go_at_call 17; refine (hst _).mono ?_; rintro e w2 ⟨rfl, rfl⟩))
          rw [HB.out] at HO
          go_roundg 2
          case measure => omega
          case rel => exact ⟨2, l ++ [b], reg', _, _, _, by rfl, by omega, rfl, rfl, HR'.out, by rw [List.length_append, hl2.out]; rfl, rfl, HF.out, HA2.out, HO⟩
        · obtain ⟨b, reg', hb1, hb2, hx8, hx32⟩ := Crc.on_val reg k2 hk2
          have hfo2 : Crc.fold ns (l ++ [b]) = reg' := by rw [Crc.fold_append, hfo]; exact hb1
          have hah2 : Crc.ahead reg' ([k0, k1, k2, k3].drop 3) = nt := by rw [hb2]; exact hah
          have hrl := Crc.vlt reg
          have hrl' := Crc.vlt reg'
          have hbl : (b.toNat : Int) < 256 := by have := b.isLt; omega
          have hxl := Crc.vlt (Crc.tab k2)
          obtain ⟨X, hX⟩ : ∃ X : Int, ((Crc.tab k2).toNat : Int) = X := ⟨_, rfl⟩
          have hst : ∀ w, Calls Try.prog 17 #[.int .u32 (k2 : Int)] w fun e w' => e = .returned (.int .u32 X) ∧ w = w' := fun w => by rw [← hX]; exact step_nat k2 (by omega) w
          obtain ⟨R', hR'⟩ : ∃ R' : Int, (reg'.toNat : Int) = R' := ⟨_, rfl⟩
          obtain ⟨B, hB⟩ : ∃ B : Int, (b.toNat : Int) = B := ⟨_, rfl⟩
          have hbs : Crc.bys l ++ [.int .u8 B] = Crc.bys (l ++ [b]) := by rw [← hB]; simp [Crc.bys]
          rw [hR] at hx8 hx32 hrl
          rw [hX] at hx32 hxl
          rw [hR'] at hx32 hrl'
          rw [hB] at hx8 hbl
          have hR0 : 0 ≤ R := by omega
          have hX0 : 0 ≤ X := by omega
          have hB0 : 0 ≤ B := by omega
          have hw8 : IntKind.u32.wrap (k2 : Int) = (k2 : Int) := IntWalk.u32_in _ (by omega)
          have HB := Lib.hid hbs
          have HF := Lib.hid hfo2
          have HA2 := Lib.hid hah2
          have HR' := Lib.hid hR'
          have HL : (Crc.bys l).length = 2 * 1 := by omega
          have HL2 := Lib.hid HL
          have hl2 := Lib.hid hl
          clear hbs hfo2 hah2 hR hR' hX hB hb1 hb2 hfo hah hlb HL hl hnx
          go_wp2_with (first | (refine li_index 44 5 4 2 rfl rfl rfl rfl rfl (by kernel_rfl) (by kernel_rfl) (by kernel_rfl) (by kernel_rfl) (by decide) ?_) | (refine li_bslice 22 1 rfl rfl (by go_simp; rfl) rfl (by decide) HO ?_; clear HO; intro gn w1 HO) | (refine li_append_row1 0 el22 rfl rfl rfl HO rfl HL2.out rfl rfl rfl (by decide) (by decide) (by decide) ?_; clear HO; intro gq cq wq hcq HO) | (go_at_call 17; refine (hst _).mono ?_; rintro e w2 ⟨rfl, rfl⟩))
          rw [HB.out] at HO
          go_roundg 1
          case measure => omega
          case rel => exact ⟨3, l ++ [b], reg', _, _, _, by rfl, by omega, rfl, rfl, HR'.out, by rw [List.length_append, hl2.out]; rfl, rfl, HF.out, HA2.out, HO⟩
        · obtain ⟨b, reg', hb1, hb2, hx8, hx32⟩ := Crc.on_val reg k3 hk3
          have hfo2 : Crc.fold ns (l ++ [b]) = reg' := by rw [Crc.fold_append, hfo]; exact hb1
          have hah2 : Crc.ahead reg' ([k0, k1, k2, k3].drop 4) = nt := by rw [hb2]; exact hah
          have hrl := Crc.vlt reg
          have hrl' := Crc.vlt reg'
          have hbl : (b.toNat : Int) < 256 := by have := b.isLt; omega
          have hxl := Crc.vlt (Crc.tab k3)
          obtain ⟨X, hX⟩ : ∃ X : Int, ((Crc.tab k3).toNat : Int) = X := ⟨_, rfl⟩
          have hst : ∀ w, Calls Try.prog 17 #[.int .u32 (k3 : Int)] w fun e w' => e = .returned (.int .u32 X) ∧ w = w' := fun w => by rw [← hX]; exact step_nat k3 (by omega) w
          obtain ⟨R', hR'⟩ : ∃ R' : Int, (reg'.toNat : Int) = R' := ⟨_, rfl⟩
          obtain ⟨B, hB⟩ : ∃ B : Int, (b.toNat : Int) = B := ⟨_, rfl⟩
          have hbs : Crc.bys l ++ [.int .u8 B] = Crc.bys (l ++ [b]) := by rw [← hB]; simp [Crc.bys]
          rw [hR] at hx8 hx32 hrl
          rw [hX] at hx32 hxl
          rw [hR'] at hx32 hrl'
          rw [hB] at hx8 hbl
          have hR0 : 0 ≤ R := by omega
          have hX0 : 0 ≤ X := by omega
          have hB0 : 0 ≤ B := by omega
          have hw8 : IntKind.u32.wrap (k3 : Int) = (k3 : Int) := IntWalk.u32_in _ (by omega)
          have HB := Lib.hid hbs
          have HF := Lib.hid hfo2
          have HA2 := Lib.hid hah2
          have HR' := Lib.hid hR'
          have HL : (Crc.bys l).length = 3 * 1 := by omega
          have HL2 := Lib.hid HL
          have hl2 := Lib.hid hl
          clear hbs hfo2 hah2 hR hR' hX hB hb1 hb2 hfo hah hlb HL hl hnx
          go_wp2_with (first | (refine li_index 44 5 4 3 rfl rfl rfl rfl rfl (by kernel_rfl) (by kernel_rfl) (by kernel_rfl) (by kernel_rfl) (by decide) ?_) | (refine li_bslice 22 1 rfl rfl (by go_simp; rfl) rfl (by decide) HO ?_; clear HO; intro gn w1 HO) | (refine li_append_row1 0 el22 rfl rfl rfl HO rfl HL2.out rfl rfl rfl (by decide) (by decide) (by decide) ?_; clear HO; intro gq cq wq hcq HO) | (go_at_call 17; refine (hst _).mono ?_; rintro e w2 ⟨rfl, rfl⟩))
          rw [HB.out] at HO
          go_roundg 0
          case measure => omega
          case rel => exact ⟨4, l ++ [b], reg', _, _, _, by rfl, by omega, rfl, rfl, HR'.out, by rw [List.length_append, hl2.out]; rfl, rfl, HF.out, HA2.out, HO⟩
end Go.Proofs.Ytaidfofcijnbeaa

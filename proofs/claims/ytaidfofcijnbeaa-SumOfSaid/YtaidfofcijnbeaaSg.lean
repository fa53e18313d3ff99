/- The document's examples. -/
import Derived.Test.YtaidfofcijnbeaaSf
import Derived.Test.YtaidfofcijnbeaaC
namespace Go.Proofs.Ytaidfofcijnbeaa
set_option linter.unusedVariables false
set_option linter.unusedSimpArgs false
set_option linter.unnecessarySimpa false
open Go.RowKit
theorem add_at (g j : Nat) : (⟨g, 0, none⟩ : Addr).add j = ⟨g, j, none⟩ := by
  unfold Addr.add
  split
  · subst_vars; rfl
  · simp
theorem Bs_row {w0 w : World} {L : List Ent} {g cap n : Nat} {l : List (BitVec 8)} (i : Nat) (HO : Own w0 w L) (hi : L[i]? = some (g, RowP 5 1 cap (Crc.bys l))) (hl : l.length = n) : Bs w (.slice (some ⟨g, 0, none⟩) n cap) l := by
  obtain ⟨o, ho, cur, rfl, hp, hc, hm⟩ := HO.at_i i hi
  have h1 := hp.length_le
  simp [Crc.bys] at h1
  refine ⟨_, _, by rw [hl], by omega, hm, fun j b hb => ⟨_, rfl, ?_⟩⟩
  have := HO.rowCell i hi j (v := .int .u8 (b.toNat : Int)) (by simp [Crc.bys, hb])
  rw [add_at]; exact this
theorem Bs_ro {w0 w : World} {L : List Ent} {g n : Nat} {xs : List Value} (l : List (BitVec 8)) (i : Nat) (HO : Own w0 w L) (hi : L[i]? = some (g, RoP 5 xs)) (hx : xs = Crc.bys l) (hl : l.length = n) (hm : n ≤ maxLen) : Bs w (.slice (some ⟨g, 0, none⟩) n n) l := by
  subst hx
  refine ⟨_, _, by rw [hl], by omega, hm, fun j b hb => ⟨_, rfl, ?_⟩⟩
  have := HO.roCell i hi j (v := .int .u8 (b.toNat : Int)) (by simp [Crc.bys, hb])
  rw [add_at]; exact this
namespace Crc
theorem e1 : crc [97#8] = 3904355907#32 := by decide +kernel
theorem e2 : crc [49#8, 50#8, 51#8, 52#8, 53#8, 54#8, 55#8, 56#8, 57#8] = 3421780262#32 := by decide +kernel
theorem e3 : join (crc [49#8, 50#8, 51#8, 52#8, 53#8]) (crc [54#8, 55#8, 56#8, 57#8]) 4 = 3421780262#32 := by
  have := crc_join [49#8, 50#8, 51#8, 52#8, 53#8] [54#8, 55#8, 56#8, 57#8]
  rw [show [54#8, 55#8, 56#8, 57#8].length = 4 from rfl] at this
  rw [this]; exact e2
theorem v1 : vi (crc [97#8]) = .int .u32 3904355907 := by rw [e1]; rfl
theorem v2 : vi (crc [49#8, 50#8, 51#8, 52#8, 53#8, 54#8, 55#8, 56#8, 57#8]) = .int .u32 3421780262 := by rw [e2]; rfl
theorem v3 : vi (join (crc [49#8, 50#8, 51#8, 52#8, 53#8]) (crc [54#8, 55#8, 56#8, 57#8]) 4) = .int .u32 3421780262 := by rw [e3]; rfl
end Crc
theorem Of_lit {w0 w : World} {L : List Ent} {g n : Nat} {xs : List Value} (l : List (BitVec 8)) (HO : Own w0 w ((g, RoP 5 xs) :: L)) (hx : xs = Crc.bys l) (hl : l.length = n) (hm : n ≤ maxLen) {v : Value} (hv : Crc.vi (Crc.crc l) = v) :
    Calls Try.prog 9 #[.slice (some ⟨g, 0, none⟩) n n] w fun e w' => e = .returned v ∧ w = w' := by
  rw [← hv]
  exact Of_any (Bs_ro l 0 HO rfl hx hl hm)
set_option maxRecDepth 20000 in
set_option maxHeartbeats 8000000 in
theorem wakes_any {w0 w : World} {L : List Ent} (HO : Own w0 w L) :
    Calls Try.prog 8 #[] w fun e w' => e = .returned (.bool true) ∧ Own w0 w' L := by
  obtain ⟨A, hA⟩ : ∃ A, Crc.crc [49#8, 50#8, 51#8, 52#8, 53#8] = A := ⟨_, rfl⟩
  obtain ⟨B, hB⟩ : ∃ B, Crc.crc [54#8, 55#8, 56#8, 57#8] = B := ⟨_, rfl⟩
  have hJ := Crc.v3
  rw [hA, hB] at hJ
  have HA := Lib.hid hA
  have HB := Lib.hid hB
  have HJ := Lib.hid hJ
  clear hA hB hJ
  have hz : (1 : Int) = ((1#32).toNat : Int) := rfl
  have hz2 : (2 : Int) = ((2#32).toNat : Int) := rfl
  have HF := Lib.hid (fun (w : World) (L : List Ent) (H : Own w0 w L) => Fix_any (w0 := w0) (w := w) (L := L) 1#32 2#32 H)
  clear hz hz2
  have Xa : Hid (([.int .u8 97] : List Value) = Crc.bys [97#8]) := Lib.hid rfl
  have X5 : Hid (([.int .u8 49, .int .u8 50, .int .u8 51, .int .u8 52, .int .u8 53] : List Value) = Crc.bys [49#8, 50#8, 51#8, 52#8, 53#8]) := Lib.hid rfl
  have X4 : Hid (([.int .u8 54, .int .u8 55, .int .u8 56, .int .u8 57] : List Value) = Crc.bys [54#8, 55#8, 56#8, 57#8]) := Lib.hid rfl
  have X9 : Hid (([.int .u8 49, .int .u8 50, .int .u8 51, .int .u8 52, .int .u8 53, .int .u8 54, .int .u8 55, .int .u8 56, .int .u8 57] : List Value) = Crc.bys [49#8, 50#8, 51#8, 52#8, 53#8, 54#8, 55#8, 56#8, 57#8]) := Lib.hid rfl
  have Y9 := Lib.hid Crc.v2
  have Ya := Lib.hid Crc.v1
  have HJ4 := Lib.hid (show ∀ (w : World) (L : List Ent), Own w0 w L → Calls Try.prog 13 #[Crc.vi A, Crc.vi B, .int .i64 4] w fun e w' => e = .returned (.tuple #[.int .u32 3421780262, .int .i64 0]) ∧ Own w0 w' L from fun w L H => by
    have := Join_yes A B 4 (by decide) H
    rw [HJ.out] at this
    exact this)
  have HF4 := Lib.hid (show ∀ (w : World) (L : List Ent), Own w0 w L → Calls Try.prog 14 #[.int .u32 1, .int .u32 2] w fun e w' => ∃ g cap, e = .returned (.slice (some ⟨g, 0, none⟩) 4 cap) ∧ Own w0 w' L from fun w L H => by
    refine (HF.out w L H).mono ?_
    rintro e w' ⟨g, cap, l, h1, _, _, h4⟩
    exact ⟨g, cap, h1, h4.tail⟩)
  clear HF
  go_enter Try.func8, Try.ntmps8
  go_upto_region 2 with (first | (refine li_bslice 22 1 rfl rfl (by go_simp; rfl) rfl (by decide) HO ?_; clear HO; intro ga wa HO) | (refine li_convSelf 0 22 5 rfl rfl rfl HO rfl (by kernel_rfl) (by kernel_rfl) ?_; clear HO; intro wb HO; simp only [List.set_cons_zero] at HO) | (go_at_call 9; (with_reducible refine (Of_lit (n := 5) [49#8, 50#8, 51#8, 52#8, 53#8] HO X5.out rfl (by decide) (congrArg Crc.vi HA.out)).mono ?_); rintro e w2 ⟨rfl, rfl⟩) | (go_at_call 9; (with_reducible refine (Of_lit (n := 4) [54#8, 55#8, 56#8, 57#8] HO X4.out rfl (by decide) (congrArg Crc.vi HB.out)).mono ?_); rintro e w2 ⟨rfl, rfl⟩) | (go_at_call 13; (with_reducible refine (HJ4.out _ _ HO).mono ?_); rintro e w2 ⟨rfl, HO1⟩; clear HO; have HO := HO1; clear HO1))
  go_wp2_with (first | (refine li_bslice 22 1 rfl rfl (by go_simp; rfl) rfl (by decide) HO ?_; clear HO; intro ga wa HO) | (refine li_convSelf 0 22 5 rfl rfl rfl HO rfl (by kernel_rfl) (by kernel_rfl) ?_; clear HO; intro wb HO; simp only [List.set_cons_zero] at HO) | (go_at_call 9; (with_reducible refine (Of_lit (n := 1) [97#8] HO Xa.out rfl (by decide) Ya.out).mono ?_); rintro e w2 ⟨rfl, rfl⟩) | (go_at_call 9; (with_reducible refine (Of_lit (n := 9) [49#8, 50#8, 51#8, 52#8, 53#8, 54#8, 55#8, 56#8, 57#8] HO X9.out rfl (by decide) Y9.out).mono ?_); rintro e w2 ⟨rfl, rfl⟩) | (go_at_call 14; (with_reducible refine (HF4.out _ _ HO).mono ?_); rintro e w2 ⟨gf, cf, rfl, HO1⟩; clear HO; have HO := HO1; clear HO1))
  go_ret
  exact ⟨rfl, HO.sub (.cons _ (.cons _ (.cons _ (.cons _ (List.Sublist.refl _)))))⟩
end Go.Proofs.Ytaidfofcijnbeaa

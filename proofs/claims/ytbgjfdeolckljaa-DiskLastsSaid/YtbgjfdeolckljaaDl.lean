/- What is handed in and told is the caller's. -/
import Derived.Test.YtbgjfdeolckljaaDk
namespace Go.Proofs.Ytbgjfdeolckljaa
set_option linter.unusedVariables false
set_option linter.unusedSimpArgs false
set_option linter.unnecessarySimpa false
open Go.RowKit Go.Proofs.YtbgjfdeolckljaaW.PrintLast
theorem u8_bv (a : Int) (h0 : 0 ≤ a) (h1 : a < 256) : ∃ s : BitVec 8, a = (s.toNat : Int) := ⟨BitVec.ofNat 8 a.toNat, by rw [BitVec.toNat_ofNat]; omega⟩
theorem bys_same (n i : Nat) (b : Dk.Byte) (h : i < n) : (Dk.bys (List.replicate n b))[i]? = some (.int .u8 (b.toNat : Int)) := by
  simp [Dk.bys, h]
/-- What a disk with one write that waits tells, and behind its Flush. -/
theorem toldS_wrote (D : Dk.Disk) (n g c : Nat) (bs : List Dk.Byte) : Dk.toldS (Dk.wrote D n g c bs) n = ⟨some (g, c, bs), false, false⟩ := by
  have hl : Dk.lastW (Dk.wrote D n g c bs).waits n = some D.waits.length := by
    refine Dk.lastW_some (x := (n, ⟨some (g, c, bs), false, false⟩)) ?_ rfl ?_
    · simp [Dk.wrote]
    · intro j y hj hy
      have := (List.getElem?_eq_some_iff.1 hy).1
      simp [Dk.wrote] at this; omega
  unfold Dk.toldS
  rw [hl]
  simp [Dk.wrote]
theorem toldS_flushed1 (k n m g c : Nat) (bs : List Dk.Byte) (hn : n < m) : Dk.toldS (Dk.flushed (Dk.wrote ⟨k, List.replicate m Dk.zero, [], false⟩ n g c bs)) n = ⟨some (g, c, bs), false, false⟩ := by
  unfold Dk.toldS
  simp only [Dk.flushed, Dk.lastW]
  simp [Dk.wrote, Dk.fl, List.getD_eq_getElem?_getD, hn]
set_option maxRecDepth 20000 in
set_option maxHeartbeats 8000000 in
theorem DiskOwn_any (a x y : Int) (w : World) (a0 : 0 ≤ a) (a1 : a < 256) (x0 : 0 ≤ x) (x1 : x < 256) (y0 : 0 ≤ y) (y1 : y < 256) :
    Calls Try.prog 4 #[.int .u8 a, .int .u8 x, .int .u8 y] w fun e w' => e = .returned (.bool true) ∧ Below w.heap.size w w' := by
  have HO := Own.nil w
  obtain ⟨bx, rfl⟩ := u8_bv x x0 x1
  have hK0 := Dk.new_ok 4 16 (by decide) (by decide) (by decide) (by decide)
  have hw0 : IntKind.i64.wrap a = a := IntWalk.i64_in _ (by omega)
  obtain ⟨n, hn⟩ : ∃ n : Nat, a % 4 = (n : Int) := ⟨(a % 4).toNat, (Int.toNat_of_nonneg (Int.emod_nonneg _ (by omega))).symm⟩
  have hn4 : n < 4 := by omega
  have hm : a.tmod 4 = (n : Int) := by rw [Int.tmod_eq_emod_of_nonneg a0, hn]
  have hwn : IntKind.i64.wrap (n : Int) = (n : Int) := IntWalk.i64_in _ (by omega)
  clear hn
  go_enter Try.func4, Try.ntmps4
  go_wp2_with (go_at_call 9; (refine (alive_any HO).mono ?_); rintro e w2 ⟨rfl, HO1⟩; clear HO; have HO := HO1; clear HO1)
  go_at_call 10; refine (DNew_yes 4 16 HO (by decide) (by decide) (by decide) (by decide)).mono ?_; rintro e w1 ⟨g, E, rfl, hD, HO1⟩
  clear HO
  go_wp2_with (fail)
  go_at_call 13; refine (filled_any 16 bx HO1 (by decide)).mono ?_; rintro e w2 ⟨g1, rfl, HO2⟩
  clear HO1
  go_wp2_with (fail)
  go_at_call 12; refine (Write_ok n hK0 hD (Own.mid (A := [_]) (B := E) HO2) (by simpa using hn4) rfl (Bs_head HO2 (by simp))).mono ?_; rintro e w3 ⟨rfl, gb, cb, E1, hD1, HO3⟩
  have hK1 := Dk.wrote_ok (n := n) (g := gb) (c := cb) (bs := List.replicate 16 bx) hK0 (by simpa using hn4) (by simp) (by simp)
  clear HO2
  have HO4 := Own.mid (A := E1) (B := [(g1, RowP 5 1 16 (Dk.bys (List.replicate 16 bx)))]) (L := []) HO3
  clear HO3
  have HO : Own w w3 ((g1, RowP 5 1 16 (Dk.bys (List.replicate 16 bx))) :: (E1 ++ [])) := HO4
  clear HO4
  clear hD
  have hg3 := Lib.hid (bys_same 16 3 bx (by decide))
  have hg5 := Lib.hid (bys_same 16 5 bx (by decide))
  have hl := Lib.hid (show (Dk.bys (List.replicate 16 bx)).length = 16 by simp [Dk.bys])
  obtain ⟨X, hX⟩ : ∃ X : Int, (bx.toNat : Int) = X := ⟨_, rfl⟩
  rw [hX] at hg3 hg5 x0 x1
  rw [hX]
  clear hX
  have hts := toldS_wrote ⟨16, List.replicate 4 Dk.zero, [], false⟩ n gb cb (List.replicate 16 bx)
  have hby : Dk.bytes (Dk.wrote ⟨16, List.replicate 4 Dk.zero, [], false⟩ n gb cb (List.replicate 16 bx)) n = List.replicate 16 bx := by unfold Dk.bytes; rw [hts]
  have HTS := Lib.hid hts
  have HBY := Lib.hid hby
  have hts2 := toldS_flushed1 16 n 4 gb cb (List.replicate 16 bx) hn4
  have hby2 : Dk.bytes (Dk.flushed (Dk.wrote ⟨16, List.replicate 4 Dk.zero, [], false⟩ n gb cb (List.replicate 16 bx))) n = List.replicate 16 bx := by unfold Dk.bytes; rw [hts2]
  have HTS2 := Lib.hid hts2
  have HBY2 := Lib.hid hby2
  have hln := Lib.hid (show n < (Dk.wrote ⟨16, List.replicate 4 Dk.zero, [], false⟩ n gb cb (List.replicate 16 bx)).lasts.length by simpa [Dk.wrote] using hn4)
  have hln2 := Lib.hid (show n < (Dk.flushed (Dk.wrote ⟨16, List.replicate 4 Dk.zero, [], false⟩ n gb cb (List.replicate 16 bx))).lasts.length by simpa [Dk.wrote, Dk.flushed, Dk.fl_len] using hn4)
  clear hts hby hts2 hby2
  go_wp2_with (refine li_storeRowInt 0 rfl rfl rfl (off := 3) rfl HO rfl rfl (by rw [hl.out]; decide) (by kernel_rfl) ?_; clear HO; intro ws HO; simp only [List.set_cons_zero] at HO)
  have HO2 := HO.tail
  clear HO
  go_at_call 17; refine (Read_ok n hK1 hD1 HO2 hln.out rfl).mono ?_; rw [HTS.out, HBY.out]; rintro e w5 (⟨⟨ht, _⟩, _⟩ | ⟨_, gz, cz, rfl, HO⟩)
  · cases ht
  clear HO2
  go_wp2_with (first | (refine li_loadRow 0 5 rfl rfl (off := 3) rfl HO rfl hg3.out (by kernel_rfl) ?_) | (refine li_storeRowInt 0 rfl rfl rfl (off := 5) rfl HO rfl rfl (by rw [hl.out]; decide) (by kernel_rfl) ?_; clear HO; intro ws HO; simp only [List.set_cons_zero] at HO))
  have HO2 := HO.tail
  clear HO
  go_at_call 11; refine (Flush_ok hK1 hD1 HO2 rfl).mono ?_; rintro e w6 ⟨rfl, E2, hD2, HO3⟩
  have hK2 := Dk.flushed_ok hK1
  clear HO2
  go_wp2_with (fail)
  go_at_call 17; refine (Read_ok n hK2 hD2 HO3 hln2.out rfl).mono ?_; rw [HTS2.out, HBY2.out]; rintro e w7 (⟨⟨ht, _⟩, _⟩ | ⟨_, gy, cy, rfl, HO⟩)
  · cases ht
  clear HO3
  go_wp2_with (first | (refine li_loadRow 0 5 rfl rfl (off := 3) rfl HO rfl hg3.out (by kernel_rfl) ?_) | (refine li_loadRow 0 5 rfl rfl (off := 5) rfl HO rfl hg5.out (by kernel_rfl) ?_))
  go_ret
  exact ⟨rfl, HO.below⟩
end Go.Proofs.Ytbgjfdeolckljaa

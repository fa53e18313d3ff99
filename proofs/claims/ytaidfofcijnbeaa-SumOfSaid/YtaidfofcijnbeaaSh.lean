/- What the law on the sum of bytes computes. -/
import Derived.Test.YtaidfofcijnbeaaSg
namespace Go.Proofs.Ytaidfofcijnbeaa
set_option linter.unusedVariables false
set_option linter.unusedSimpArgs false
set_option linter.unnecessarySimpa false
open Go.RowKit
theorem Bs_below {w w1 : World} {v : Value} {l : List (BitVec 8)} (h : Bs w v l) (hb : Below w.heap.size w w1) : Bs w1 v l := by
  obtain ⟨ao, cap, rfl, h1, h2, h3⟩ := h
  refine ⟨ao, cap, rfl, h1, h2, fun i b hi => ?_⟩
  obtain ⟨a, rfl, hc⟩ := h3 i b hi
  exact ⟨a, rfl, by rw [hb.cell (World.block_lt_of_cell? w _ hc)]; exact hc⟩
theorem Own.bs {w w1 : World} {L : List Ent} {v : Value} {l : List (BitVec 8)} (HO : Own w w1 L) (h : Bs w v l) : Bs w1 v l := Bs_below h HO.below
theorem u32_bv (a : Int) (h0 : 0 ≤ a) (h1 : a < 4294967296) : ∃ s : BitVec 32, a = (s.toNat : Int) := ⟨BitVec.ofNat 32 a.toNat, by rw [BitVec.toNat_ofNat]; omega⟩
set_option maxRecDepth 20000 in
set_option maxHeartbeats 8000000 in
theorem SumOf_any {w : World} {v : Value} {l : List (BitVec 8)} (s : Int) (hl : Bs w v l) (s0 : 0 ≤ s) (s1 : s < 4294967296) :
    Calls Try.prog 3 #[v, .int .u32 s] w fun e w' => e = .returned (.bool true) ∧ Below w.heap.size w w' := by
  obtain ⟨s, rfl⟩ := u32_bv s s0 s1
  have HO := Own.nil w
  have HB := Lib.hid hl
  obtain ⟨ao, cap, rfl, hc1, hc2, _⟩ := hl
  obtain ⟨n, hn⟩ : ∃ n, l.length = n := ⟨_, rfl⟩
  rw [hn] at hc1 ⊢
  have HB2 := HB.out
  rw [hn] at HB2
  clear HB
  have HB := Lib.hid HB2
  clear HB2
  obtain ⟨A, hA⟩ : ∃ A, Crc.crc l = A := ⟨_, rfl⟩
  obtain ⟨B, hB⟩ : ∃ B, Crc.more s l = B := ⟨_, rfl⟩
  have HA := Lib.hid hA
  have HB' := Lib.hid hB
  clear hA hB hn
  rcases Nat.lt_or_ge 2000 n with hj | hj
  · have hd : decide ((2000 : Int) < (n : Int)) = true := decide_eq_true (by omega)
    go_enter Try.func3, Try.ntmps3
    go_wp2_with (first | (go_at_call 8; (with_reducible refine (wakes_any HO).mono ?_); rintro e w2 ⟨rfl, HO1⟩; clear HO; have HO := HO1; clear HO1))
    go_ret
    exact ⟨rfl, HO.below⟩
  · have hd : decide ((2000 : Int) < (n : Int)) = false := decide_eq_false (by omega)
    go_enter Try.func3, Try.ntmps3
    go_wp2_with (first | (go_at_call 8; (with_reducible refine (wakes_any HO).mono ?_); rintro e w2 ⟨rfl, HO1⟩; clear HO; have HO := HO1; clear HO1) | (go_at_call 9; (with_reducible refine (Of_any (HO.bs HB.out)).mono ?_); rw [HA.out]; rintro e w2 ⟨rfl, rfl⟩) | (go_at_call 10; (with_reducible refine (ROf_any (HO.bs HB.out)).mono ?_); rw [HA.out]; rintro e w2 ⟨rfl, rfl⟩) | (go_at_call 11; (with_reducible refine (More_any s (HO.bs HB.out)).mono ?_); rw [HB'.out]; rintro e w2 ⟨rfl, rfl⟩) | (go_at_call 12; (with_reducible refine (RMore_any s (HO.bs HB.out)).mono ?_); rw [HB'.out]; rintro e w2 ⟨rfl, rfl⟩))
    go_ret
    exact ⟨rfl, HO.below⟩
end Go.Proofs.Ytaidfofcijnbeaa

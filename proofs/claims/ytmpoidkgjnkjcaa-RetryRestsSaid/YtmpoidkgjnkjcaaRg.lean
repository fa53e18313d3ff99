/- What the law on blown fuses computes. -/
import Derived.Test.YtmpoidkgjnkjcaaRf
namespace Go.Proofs.Ytmpoidkgjnkjcaa
set_option linter.unusedVariables false
set_option linter.unusedSimpArgs false
set_option linter.unnecessarySimpa false
open Go.RowKit Go.Proofs.YtmpoidkgjnkjcaaW.PrintLast
section
variable {w0 w : World} {L : List Ent} {g : Nat}
theorem Rt.held_in {x : Int} (h0 : 0 ≤ x) (h1 : x ≤ 1099511627776) : Rt.held x = x := by unfold Rt.held; omega
theorem O_Tell_low (b r k u now : Int) (HO : Own w0 w ((g, CellsP 65 (fusl b r k u)) :: L)) (h0 : 0 ≤ k) (h1 : k < 1000) (h2 : 1 ≤ r) (h3 : r ≤ 1099511627776) (h4 : k + 1 < b) :
    Calls Try.prog 21 #[.pointer (some ⟨g, 0, none⟩), .int .i64 now, .bool false] w fun e w' => e = .returned (.tuple #[]) ∧ Own w0 w' ((g, CellsP 65 (fusl b r (k + 1) u)) :: L) := by
  have := O_Tell_fails b r k u now HO h0 h1 h2 h3
  rw [if_neg (by omega)] at this
  exact this
theorem O_Tell_blow (b r k u now : Int) (HO : Own w0 w ((g, CellsP 65 (fusl b r k u)) :: L)) (h0 : 0 ≤ k) (h1 : k < 1000) (h2 : 1 ≤ r) (h3 : r ≤ 1099511627776) (h4 : b ≤ k + 1) (h5 : 0 ≤ now) (h6 : now ≤ 1099511627776) :
    Calls Try.prog 21 #[.pointer (some ⟨g, 0, none⟩), .int .i64 now, .bool false] w fun e w' => e = .returned (.tuple #[]) ∧ Own w0 w' ((g, CellsP 65 (fusl b r (k + 1) (now + r))) :: L) := by
  have := O_Tell_fails b r k u now HO h0 h1 h2 h3
  rw [if_pos (by omega), Rt.held_in h5 h6] at this
  exact this
theorem O_May_yes (b r k u now : Int) (HO : Own w0 w ((g, CellsP 65 (fusl b r k u)) :: L)) (h5 : 0 ≤ now) (h6 : now ≤ 1099511627776) (h : u ≤ now) :
    Calls Try.prog 22 #[.pointer (some ⟨g, 0, none⟩), .int .i64 now] w fun e w' => e = .returned (.bool true) ∧ Own w0 w' ((g, CellsP 65 (fusl b r k u)) :: L) := by
  have := O_May b r k u now HO
  rw [Rt.held_in h5 h6, decide_eq_true h] at this
  exact this
theorem O_May_no (b r k u now : Int) (HO : Own w0 w ((g, CellsP 65 (fusl b r k u)) :: L)) (h5 : 0 ≤ now) (h6 : now ≤ 1099511627776) (h : now < u) :
    Calls Try.prog 22 #[.pointer (some ⟨g, 0, none⟩), .int .i64 now] w fun e w' => e = .returned (.bool false) ∧ Own w0 w' ((g, CellsP 65 (fusl b r k u)) :: L) := by
  have := O_May b r k u now HO
  rw [Rt.held_in h5 h6, decide_eq_false (by omega)] at this
  exact this
end
set_option maxHeartbeats 8000000 in
theorem RetryBlows_any (fl r nw : Int) (w : World) (b1 : 0 ≤ fl) (b2 : fl ≤ 255) (c1 : 0 ≤ r) (c2 : r ≤ 65535) (d1 : 0 ≤ nw) (d2 : nw ≤ 65535) :
    Calls Try.prog 7 #[.int .u8 fl, .int .u16 r, .int .u16 nw] w fun e w' => e = .returned (.bool true) ∧ Below w.heap.size w w' := by
  have HO := Own.nil w
  have hm : fl.tmod 20 = fl % 20 := Int.tmod_eq_emod_of_nonneg b1
  obtain ⟨n, en, n1, n2⟩ : ∃ n, n = 1 + fl % 20 ∧ 1 ≤ n ∧ n ≤ 20 := ⟨_, rfl, by omega, by omega⟩
  obtain ⟨a, ea, a1, a2⟩ : ∃ a, a = 1 + r ∧ 1 ≤ a ∧ a ≤ 65536 := ⟨_, rfl, by omega, by omega⟩
  have hw1 : IntKind.i64.wrap fl = fl := IntWalk.i64_in _ (by omega)
  have hw2 : IntKind.i64.wrap r = r := IntWalk.i64_in _ (by omega)
  have hw3 : IntKind.i64.wrap nw = nw := IntWalk.i64_in _ (by omega)
  have hw4 : IntKind.i64.wrap (1 + fl % 20) = n := by rw [en]; exact IntWalk.i64_in _ (by omega)
  have hw5 : IntKind.i64.wrap (1 + r) = a := by rw [ea]; exact IntWalk.i64_in _ (by omega)
  have hw6 : IntKind.i64.wrap (nw + a) = nw + a := IntWalk.i64_in _ (by omega)
  have hok : Rt.okf n a = true := by unfold Rt.okf Rt.rests; simp; omega
  clear en ea
  go_enter Try.func7, Try.ntmps7
  go_wp2_with (first | (go_at_call 8; refine (alive_O HO).mono ?_; rintro e w1 ⟨rfl, HO1⟩; clear HO; have HO := HO1; clear HO1) | (go_at_call 19; refine (O_NewFuse _ _ HO (by simpa [hm, hw1, hw2, hw4, hw5] using hok)).mono ?_; rintro e w1 ⟨g, rfl, HO1⟩; clear HO; have HO := HO1; clear HO1))
  go_loopg [12] (n - 1).toNat (fun k i wr => ∃ j : Int, i = .int .i64 j ∧ 1 ≤ j ∧ j ≤ n ∧ k = (n - j).toNat ∧ Own w wr [(g, CellsP 65 (fusl n a (j - 1) 0))])
  case atStart => exact ⟨1, rfl, by omega, by omega, by omega, HO⟩
  case round =>
    clear HO
    obtain ⟨j, rfl, j1, j2, hk, HO⟩ := hrel
    have hw7 : IntKind.i64.wrap (j + 1) = j + 1 := IntWalk.i64_in _ (by omega)
    have hj : j - 1 + 1 = j := by omega
    by_cases hlt : j < n
    · have hd : decide (j < n) = true := decide_eq_true hlt
      go_wp2_with (first | (go_at_call 21; refine (O_Tell_low n a (j - 1) 0 nw HO (by omega) (by omega) (by omega) (by omega) (by omega)).mono ?_; rintro e w2 ⟨rfl, HO1⟩; clear HO; have HO := HO1; clear HO1; rw [hj] at HO) | (go_at_call 22; refine (O_May_yes n a j 0 nw HO (by omega) (by omega) (by omega)).mono ?_; rintro e w2 ⟨rfl, HO1⟩; clear HO; have HO := HO1; clear HO1))
      go_roundg (n - (j + 1)).toNat
      case measure => omega
      case rel => exact ⟨j + 1, rfl, by omega, by omega, rfl, by rw [show j + 1 - 1 = j by omega]; exact HO⟩
    · obtain rfl : j = n := by omega
      have hd : decide (j < j) = false := by simp
      have hw8 : IntKind.i64.wrap (nw + a - 1) = nw + a - 1 := IntWalk.i64_in _ (by omega)
      have hw9 : IntKind.i64.wrap (2 * a) = 2 * a := IntWalk.i64_in _ (by omega)
      have hw10 : IntKind.i64.wrap (nw + 2 * a) = nw + 2 * a := IntWalk.i64_in _ (by omega)
      have hw11 : IntKind.i64.wrap (nw + 2 * a - 1) = nw + 2 * a - 1 := IntWalk.i64_in _ (by omega)
      have he : nw + a + a = nw + 2 * a := by omega
      by_cases h1 : j = 1
      · have hd1 : decide (j = 1) = true := decide_eq_true h1
        go_wp2_with (fail)
        go_at_call 21; refine (O_Tell_blow j a (j - 1) 0 nw HO (by omega) (by omega) (by omega) (by omega) (by omega) (by omega) (by omega)).mono ?_; rintro e w2 ⟨rfl, HO1⟩; clear HO; have HO := HO1; clear HO1; rw [hj] at HO
        go_wp2_with (fail)
        go_at_call 22; refine (O_May_no j a j (nw + a) nw HO (by omega) (by omega) (by omega)).mono ?_; rintro e w2 ⟨rfl, HO1⟩; clear HO; have HO := HO1; clear HO1
        go_wp2_with (fail)
        go_at_call 22; refine (O_May_no j a j (nw + a) (nw + a - 1) HO (by omega) (by omega) (by omega)).mono ?_; rintro e w2 ⟨rfl, HO1⟩; clear HO; have HO := HO1; clear HO1
        go_wp2_with (fail)
        go_at_call 22; refine (O_May_yes j a j (nw + a) (nw + a) HO (by omega) (by omega) (by omega)).mono ?_; rintro e w2 ⟨rfl, HO1⟩; clear HO; have HO := HO1; clear HO1
        go_wp2_with (fail)
        go_at_call 21; refine (O_Tell_blow j a j (nw + a) (nw + a) HO (by omega) (by omega) (by omega) (by omega) (by omega) (by omega) (by omega)).mono ?_; rintro e w2 ⟨rfl, HO1⟩; clear HO; have HO := HO1; clear HO1; rw [he] at HO
        go_wp2_with (fail)
        go_at_call 22; refine (O_May_no j a (j + 1) (nw + 2 * a) (nw + 2 * a - 1) HO (by omega) (by omega) (by omega)).mono ?_; rintro e w2 ⟨rfl, HO1⟩; clear HO; have HO := HO1; clear HO1
        go_wp2_with (fail)
        go_at_call 21; refine (O_Tell_whole j a (j + 1) (nw + 2 * a) (nw + 2 * a) HO).mono ?_; rintro e w2 ⟨rfl, HO1⟩; clear HO; have HO := HO1; clear HO1
        go_wp2_with (fail)
        go_at_call 21; refine (O_Tell_whole j a 0 0 (nw + 2 * a) HO).mono ?_; rintro e w2 ⟨rfl, HO1⟩; clear HO; have HO := HO1; clear HO1
        go_wp2_with (fail)
        go_at_call 22; refine (O_May_yes j a 0 0 (nw + 2 * a) HO (by omega) (by omega) (by omega)).mono ?_; rintro e w2 ⟨rfl, HO1⟩; clear HO; have HO := HO1; clear HO1
        go_wp2_with (fail)
        go_ret
        exact ⟨rfl, HO.below⟩
      · have hd1 : (j == 1) = false := by simp [h1]
        go_wp2_with (fail)
        go_at_call 21; refine (O_Tell_blow j a (j - 1) 0 nw HO (by omega) (by omega) (by omega) (by omega) (by omega) (by omega) (by omega)).mono ?_; rintro e w2 ⟨rfl, HO1⟩; clear HO; have HO := HO1; clear HO1; rw [hj] at HO
        go_wp2_with (fail)
        go_at_call 22; refine (O_May_no j a j (nw + a) nw HO (by omega) (by omega) (by omega)).mono ?_; rintro e w2 ⟨rfl, HO1⟩; clear HO; have HO := HO1; clear HO1
        go_wp2_with (fail)
        go_at_call 22; refine (O_May_no j a j (nw + a) (nw + a - 1) HO (by omega) (by omega) (by omega)).mono ?_; rintro e w2 ⟨rfl, HO1⟩; clear HO; have HO := HO1; clear HO1
        go_wp2_with (fail)
        go_at_call 22; refine (O_May_yes j a j (nw + a) (nw + a) HO (by omega) (by omega) (by omega)).mono ?_; rintro e w2 ⟨rfl, HO1⟩; clear HO; have HO := HO1; clear HO1
        go_wp2_with (fail)
        go_at_call 21; refine (O_Tell_blow j a j (nw + a) (nw + a) HO (by omega) (by omega) (by omega) (by omega) (by omega) (by omega) (by omega)).mono ?_; rintro e w2 ⟨rfl, HO1⟩; clear HO; have HO := HO1; clear HO1; rw [he] at HO
        go_wp2_with (fail)
        go_at_call 22; refine (O_May_no j a (j + 1) (nw + 2 * a) (nw + 2 * a - 1) HO (by omega) (by omega) (by omega)).mono ?_; rintro e w2 ⟨rfl, HO1⟩; clear HO; have HO := HO1; clear HO1
        go_wp2_with (fail)
        go_at_call 21; refine (O_Tell_whole j a (j + 1) (nw + 2 * a) (nw + 2 * a) HO).mono ?_; rintro e w2 ⟨rfl, HO1⟩; clear HO; have HO := HO1; clear HO1
        go_wp2_with (fail)
        go_at_call 21; refine (O_Tell_low j a 0 0 (nw + 2 * a) HO (by omega) (by omega) (by omega) (by omega) (by omega)).mono ?_; rintro e w2 ⟨rfl, HO1⟩; clear HO; have HO := HO1; clear HO1
        go_wp2_with (fail)
        go_at_call 22; refine (O_May_yes j a (0 + 1) 0 (nw + 2 * a) HO (by omega) (by omega) (by omega)).mono ?_; rintro e w2 ⟨rfl, HO1⟩; clear HO; have HO := HO1; clear HO1
        go_wp2_with (fail)
        go_ret
        exact ⟨rfl, HO.below⟩
end Go.Proofs.Ytmpoidkgjnkjcaa

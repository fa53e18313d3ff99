/- Contracts of the timer's methods (rest, Fail, Good, Ready, Left), on a timer that lies in one block, and on no timer. -/
import Derived.Test.YtmpoidkgjnkjcaaRa
namespace Go.Proofs.Ytmpoidkgjnkjcaa
open Go.RowKit
theorem blk5 {w : World} {g t : Nat} {a b c d e : Value} (h : Blk w g t #[a, b, c, d, e]) :
    w.cell? ⟨g, 0, none⟩ = some a ∧ w.cell? ⟨g, 1, none⟩ = some b ∧ w.cell? ⟨g, 2, none⟩ = some c ∧ w.cell? ⟨g, 3, none⟩ = some d ∧ w.cell? ⟨g, 4, none⟩ = some e :=
  ⟨h.cell 0, h.cell 1, h.cell 2, h.cell 3, h.cell 4⟩
theorem only_set {w : World} {g : Nat} {w' : World} (h : w.grownBy w' (some g)) (i : Nat) (u : Value) : w.grownBy (w'.setCell ⟨g, i, none⟩ u) (some g) :=
  ⟨h.os, h.tape, h.output, by simpa [World.setCell] using h.size, fun k hk hne => (Below.heap_setCell w' ⟨g, i, none⟩ u k (by rintro rfl; exact hne rfl)).trans (h.block k hk hne)⟩
theorem only_drewN {w w' : World} {r : Option Nat} (h : w.grownBy w' r) (n : Nat) : w.grownBy (w'.drewN n) r := ⟨h.os, h.tape, h.output, h.size, h.block⟩
theorem only_drew {w w' : World} {r : Option Nat} (h : w.grownBy w' r) : w.grownBy w'.drew r := ⟨h.os, h.tape, h.output, h.size, h.block⟩
set_option maxHeartbeats 1000000 in
theorem rest_any (g : Nat) (b f m r nx : Int) (w : World) (hb : Blk w g 59 #[.int .i64 b, .int .i64 f, .int .i64 m, .int .i64 r, .int .i64 nx])
    (h1 : 1 ≤ f) (h2 : f ≤ m) (h3 : m ≤ 1099511627776) (h4 : 1 ≤ r) (h5 : r ≤ 1001) :
    Calls Try.prog 25 #[.pointer (some ⟨g, 0, none⟩)] w fun e w' => e = .returned (.int .i64 (Rt.dbl f m (r.toNat - 1))) ∧ w = w' := by
  obtain ⟨c0, c1, c2, c3, c4⟩ := blk5 hb
  clear hb
  go_enter Try.func25, Try.ntmps25
  go_wp2
  go_loop [3, 13] (fun v i => ∃ k : Nat, (k : Int) ≤ r - 1 ∧ i = .int .i64 k ∧ v = .int .i64 (Rt.dbl f m k)) (fun _ i => r.toNat - (intOf i).toNat)
  case atStart => exact ⟨0, by omega, rfl, rfl⟩
  case round =>
    obtain ⟨k, hk, rfl, rfl⟩ := hrel
    obtain ⟨d1, d2⟩ := Rt.dbl_bd f m h1 h2 k
    by_cases hlt : (k : Int) < r - 1
    · by_cases ht : 2 * Rt.dbl f m k < m
      · have e1 : Rt.dbl f m (k + 1) = 2 * Rt.dbl f m k := by rw [Rt.dbl]; omega
        have H := Lib.hid e1
        clear e1
        have e2 : (2 * Rt.dbl f m k == m) = false := by simp; omega
        go_wp2
        go_round
        case rel => exact ⟨k + 1, by omega, by go_num, by rw [H.out]⟩
        case measure => simp [intOf]; omega
      · have e1 : Rt.dbl f m (r.toNat - 1) = m := by
          refine Rt.dbl_top f m h1 h2 (k + 1) ?_ _ (by omega)
          rw [Rt.dbl]; omega
        have H := Lib.hid e1
        clear e1
        go_wp2
        all_goals
          go_ret
          exact ⟨ret_i (by rw [H.out]; try omega), rfl⟩
    · have e1 : k = r.toNat - 1 := by omega
      have H := Lib.hid e1
      clear e1
      go_wp2
      go_ret
      exact ⟨ret_i (by rw [← H.out]), rfl⟩
/-- A timer, as values. -/
abbrev tim (b f m r nx : Int) : Array Value := #[.int .i64 b, .int .i64 f, .int .i64 m, .int .i64 r, .int .i64 nx]
set_option maxHeartbeats 2000000 in
theorem Fail_over (g : Nat) (b f m r nx now : Int) (w : World) (hb : Blk w g 59 (tim b f m r nx)) (h0 : 0 ≤ r) (h5 : r ≤ 1000) (h6 : b < r + 1) :
    Calls Try.prog 11 #[.pointer (some ⟨g, 0, none⟩), .int .i64 now] w fun e w' => e = .returned (.tuple #[.int .i64 0, .bool false]) ∧ Blk w' g 59 (tim b f m (r + 1) nx) ∧ w.grownBy w' (some g) := by
  obtain ⟨c0, c1, c2, c3, c4⟩ := blk5 hb
  have z3 := hb.frozen 3
  have HB := Lib.hid hb
  clear hb
  go_enter Try.func11, Try.ntmps11
  go_wp2
  go_quiet (fail)
  go_wp2
  go_ret2
  refine ⟨rfl, ?_, ?_⟩
  · have h := (HB.out.set_ 3 (.int .i64 (r + 1))).drewN nq
    exact h
  · exact only_set (only_drewN (World.grownBy.refl _ _) nq) 3 _
set_option maxHeartbeats 2000000 in
theorem Fail_yes (g : Nat) (b f m r nx now : Int) (w : World) (hb : Blk w g 59 (tim b f m r nx)) (h0 : 0 ≤ r) (h5 : r ≤ 1000) (h6 : r + 1 ≤ b) (h1 : 1 ≤ f) (h2 : f ≤ m) (h3 : m ≤ 1099511627776) :
    Calls Try.prog 11 #[.pointer (some ⟨g, 0, none⟩), .int .i64 now] w fun e w' => e = .returned (.tuple #[.int .i64 (Rt.held now + Rt.dbl f m r.toNat), .bool true]) ∧
      Blk w' g 59 (tim b f m (r + 1) (Rt.held now + Rt.dbl f m r.toNat)) ∧ w.grownBy w' (some g) := by
  obtain ⟨c0, c1, c2, c3, c4⟩ := blk5 hb
  have z3 := hb.frozen 3
  have z4 := hb.frozen 4
  have HB := Lib.hid hb
  clear hb
  obtain ⟨b1, b2⟩ := Rt.held_bd now
  obtain ⟨b3, b4⟩ := Rt.dbl_bd f m h1 h2 ((r + 1).toNat - 1)
  have e1 : (r + 1).toNat - 1 = r.toNat := by omega
  have H := Lib.hid e1
  clear e1
  go_enter Try.func11, Try.ntmps11
  go_wp2
  go_quiet (fail)
  have hb2 : Hid (Blk ((w.setCell ⟨g, 3, none⟩ (.int .i64 (r + 1))).drewN nq) g 59 (tim b f m (r + 1) nx)) := (HB.out.set_ 3 (.int .i64 (r + 1))).drewN nq
  go_wp2_with (first | (go_at_call 24; refine (held_any _ _).mono ?_; rintro e w' ⟨rfl, rfl⟩) | (go_at_call 25; refine (rest_any g b f m (r + 1) nx _ hb2.out h1 h2 h3 (by omega) (by omega)).mono ?_; rintro e w' ⟨rfl, rfl⟩))
  go_ret2
  refine ⟨?_, ?_, ?_⟩
  · rw [← H.out]; rfl
  · have h := hb2.out.set_ 4 (.int .i64 (Rt.held now + Rt.dbl f m ((r + 1).toNat - 1)))
    rw [← H.out]
    exact h
  · exact only_set (only_drewN (only_set (World.grownBy.refl _ _) 3 _) nq) 4 _
theorem Fail_nil (now : Int) (w : World) : Calls Try.prog 11 #[.pointer none, .int .i64 now] w fun e w' => e = .returned (.tuple #[.int .i64 0, .bool false]) ∧ w = w' := by
  go_enter Try.func11, Try.ntmps11
  go_wp2
  go_ret2
  exact ⟨rfl, rfl⟩
theorem Good_nil (w : World) : Calls Try.prog 13 #[.pointer none] w fun e w' => e = .returned (.tuple #[]) ∧ w = w' := by
  go_enter Try.func13, Try.ntmps13
  go_wp2
  go_end0
  exact ⟨rfl, rfl⟩
theorem Ready_nil (now : Int) (w : World) : Calls Try.prog 15 #[.pointer none, .int .i64 now] w fun e w' => e = .returned (.bool false) ∧ w' = w.drewN 1 := by
  go_enter Try.func15, Try.ntmps15
  go_wp2_with fail
  go_region
  all_goals
    go_wp2
    go_ret
    exact ⟨rfl, rfl⟩
theorem Left_nil (w : World) : Calls Try.prog 17 #[.pointer none] w fun e w' => e = .returned (.int .i64 0) ∧ w = w' := by
  go_enter Try.func17, Try.ntmps17
  go_wp2
  go_ret
  exact ⟨rfl, rfl⟩
theorem Good_any (g : Nat) (b f m r nx : Int) (w : World) (hb : Blk w g 59 (tim b f m r nx)) :
    Calls Try.prog 13 #[.pointer (some ⟨g, 0, none⟩)] w fun e w' => e = .returned (.tuple #[]) ∧ Blk w' g 59 (tim b f m 0 0) ∧ w.grownBy w' (some g) := by
  obtain ⟨c0, c1, c2, c3, c4⟩ := blk5 hb
  have z3 := hb.frozen 3
  have z4 := hb.frozen 4
  have HB := Lib.hid hb
  clear hb
  go_enter Try.func13, Try.ntmps13
  go_wp2
  go_end0
  refine ⟨rfl, ?_, ?_⟩
  · have h := (HB.out.set_ 3 (.int .i64 0)).set_ 4 (.int .i64 0)
    exact h
  · exact only_set (only_set (World.grownBy.refl _ _) 3 _) 4 _
/-- May one try? -/
def Rt.may (b r nx now : Int) : Bool := decide (r ≤ b) && decide (nx ≤ Rt.held now)
theorem Ready_any (g : Nat) (b f m r nx now : Int) (w : World) (hb : Blk w g 59 (tim b f m r nx)) :
    Calls Try.prog 15 #[.pointer (some ⟨g, 0, none⟩), .int .i64 now] w fun e w' => e = .returned (.bool (Rt.may b r nx now)) ∧ ∃ n, w' = w.drewN n := by
  obtain ⟨c0, c1, c2, c3, c4⟩ := blk5 hb
  clear hb
  by_cases h : r ≤ b
  · have e1 : Rt.may b r nx now = decide (nx ≤ Rt.held now) := by unfold Rt.may; simp [h]
    have H := Lib.hid e1
    clear e1
    go_enter Try.func15, Try.ntmps15
    go_wp2_with fail
    go_quiet ((go_at_call 24; exact quiet_eq (held_any _ _)))
    go_wp2
    go_ret
    exact ⟨ret_b (by rw [H.out]), _, rfl⟩
  · have e1 : Rt.may b r nx now = false := by unfold Rt.may; simp; omega
    have H := Lib.hid e1
    clear e1
    have hd : decide (r ≤ b) = false := by simp; omega
    clear h
    go_enter Try.func15, Try.ntmps15
    go_wp2_with fail
    go_quiet ((go_at_call 24; exact quiet_eq (held_any _ _)))
    go_wp2
    go_ret
    exact ⟨ret_b (by rw [H.out]), _, rfl⟩
theorem Left_any (g : Nat) (b f m r nx : Int) (w : World) (hb : Blk w g 59 (tim b f m r nx)) (h0 : 0 ≤ r) (h1 : r ≤ 1001) (h2 : 0 ≤ b) (h3 : b ≤ 1000) :
    Calls Try.prog 17 #[.pointer (some ⟨g, 0, none⟩)] w fun e w' => e = .returned (.int .i64 (max (b - r) 0)) ∧ ∃ n, w' = w.drewN n := by
  obtain ⟨c0, c1, c2, c3, c4⟩ := blk5 hb
  clear hb
  go_enter Try.func17, Try.ntmps17
  go_wp2_with fail
  go_quiet (fail)
  go_wp2
  all_goals
    go_ret
    exact ⟨ret_i (by omega), _, rfl⟩
end Go.Proofs.Ytmpoidkgjnkjcaa

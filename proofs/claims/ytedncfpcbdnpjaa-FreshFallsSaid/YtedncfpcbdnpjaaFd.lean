/- The contracts of fresh.Covers, of the reference's Covers, and of the laws' own of, for every input. -/
import Derived.Test.YtedncfpcbdnpjaaFc
namespace Go.Proofs.Ytedncfpcbdnpjaa
open Go.RowKit
set_option maxHeartbeats 1000000 in
theorem of_any (f wh er : Int) (w : World) :
    Calls Try.prog 11 #[.agg #[.int .i64 f, .int .i64 wh, .int .i64 er]] w fun e w' => e = .returned (meta_ (.string ⟨#[]⟩) (.bool false) (.int .i64 0) (.int .i64 0) (.int .i64 0) (.slice none 0 0) (.string ⟨#[]⟩) (.bool false) f wh er) ∧ Below w.heap.size w w' := by
  go_enter Try.func11, Try.ntmps11
  go_wp2
  refine bodyPost_ret (v := meta_ (.string ⟨#[]⟩) (.bool false) (.int .i64 0) (.int .i64 0) (.int .i64 0) (.slice none 0 0) (.string ⟨#[]⟩) (.bool false) f wh er) (by simp [results, Try.results11, go_sem]) rfl ⟨rfl, ?_⟩
  repeat (with_reducible first | exact Below.refl _ _ | refine below_drewN ?_ _ | refine Below.drew ?_ | (refine Below.alloc ?_ (by simp) _) | refine Below.setCell ?_ (by simp) _)
def Cv (f wh e sd aq st : Int) : Bool := !(decide (st < 1) || decide (3 < st)) && (decide (Fr.held aq ≤ Fr.held sd) || decide (St f wh e sd aq ≤ st))
def RCv (f wh e sd aq st : Int) : Bool := !(decide (st < 1) || decide (3 < st)) && (decide (Fr.held aq ≤ Fr.held sd) || decide (RSt f wh e sd aq ≤ st))
set_option maxHeartbeats 4000000 in
theorem Covers_any (x0 x1 x2 x3 x4 x8 x9 x10 : Value) (f wh er sd aq st : Int) (w : World) :
    Calls Try.prog 20 #[meta_ x0 x1 x2 x3 x4 x8 x9 x10 f wh er, .int .i64 sd, .int .i64 aq, .int .i64 st] w fun e w' => e = .returned (.bool (Cv f wh er sd aq st)) ∧ Below w.heap.size w w' := by
  by_cases h1 : st < 1
  · have hfin : Cv f wh er sd aq st = false := by unfold Cv; simp [h1]
    have H := Lib.hid hfin
    clear hfin
    go_enter Try.func20, Try.ntmps20
    go_wp2
    go_ret
    refine ⟨ret_b H.out.symm, ?_⟩
    repeat (with_reducible first | exact Below.refl _ _ | refine below_drewN ?_ _ | refine Below.drew ?_ | (refine Below.alloc ?_ (by simp) _))
  · by_cases h2 : 3 < st
    · have hfin : Cv f wh er sd aq st = false := by unfold Cv; simp [h2]
      have H := Lib.hid hfin
      clear hfin
      go_enter Try.func20, Try.ntmps20
      go_wp2
      go_ret
      refine ⟨ret_b H.out.symm, ?_⟩
      repeat (with_reducible first | exact Below.refl _ _ | refine below_drewN ?_ _ | refine Below.drew ?_ | (refine Below.alloc ?_ (by simp) _))
    · by_cases h3 : Fr.held aq ≤ Fr.held sd
      · have hfin : Cv f wh er sd aq st = true := by unfold Cv; simp [h1, h2, h3]
        have H := Lib.hid hfin
        clear hfin
        go_enter Try.func20, Try.ntmps20
        go_wp2_with (first | (go_at_call 22; refine (held_any _ _).mono ?_; rintro e w' ⟨rfl, rfl⟩))
        go_ret
        refine ⟨ret_b H.out.symm, ?_⟩
        repeat (with_reducible first | exact Below.refl _ _ | refine below_drewN ?_ _ | refine Below.drew ?_ | (refine Below.alloc ?_ (by simp) _))
      · have hfin : Cv f wh er sd aq st = decide (St f wh er sd aq ≤ st) := by unfold Cv; simp [h1, h2, h3]
        have H := Lib.hid hfin
        clear hfin
        go_enter Try.func20, Try.ntmps20
        go_wp2_with (first | (go_at_call 22; refine (held_any _ _).mono ?_; rintro e w' ⟨rfl, rfl⟩) | (go_at_call 13; refine (State_any _ _ _ _ _ _ _ _ _ _ _ _ _ _).mono ?_; rintro e w1 ⟨rfl, hb⟩))
        go_ret
        refine ⟨ret_b (by rw [H.out]; simp; omega), ?_⟩
        have hb' : Below w.heap.size _ _ := hb.mono (by simp)
        repeat (with_reducible first | exact Below.refl _ _ | (refine Below.trans ?_ hb') | refine below_drewN ?_ _ | refine Below.drew ?_ | (refine Below.alloc ?_ (by simp) _))
set_option maxHeartbeats 4000000 in
theorem RCovers_any (x0 x1 x2 x3 x4 x8 x9 x10 : Value) (f wh er sd aq st : Int) (w : World) :
    Calls Try.prog 21 #[meta_ x0 x1 x2 x3 x4 x8 x9 x10 f wh er, .int .i64 sd, .int .i64 aq, .int .i64 st] w fun e w' => e = .returned (.bool (RCv f wh er sd aq st)) ∧ Below w.heap.size w w' := by
  by_cases h1 : st < 1
  · have hfin : RCv f wh er sd aq st = false := by unfold RCv; simp [h1]
    have H := Lib.hid hfin
    clear hfin
    go_enter Try.func21, Try.ntmps21
    go_wp2
    go_ret
    refine ⟨ret_b H.out.symm, ?_⟩
    repeat (with_reducible first | exact Below.refl _ _ | refine below_drewN ?_ _ | refine Below.drew ?_ | (refine Below.alloc ?_ (by simp) _))
  · by_cases h2 : 3 < st
    · have hfin : RCv f wh er sd aq st = false := by unfold RCv; simp [h2]
      have H := Lib.hid hfin
      clear hfin
      go_enter Try.func21, Try.ntmps21
      go_wp2
      go_ret
      refine ⟨ret_b H.out.symm, ?_⟩
      repeat (with_reducible first | exact Below.refl _ _ | refine below_drewN ?_ _ | refine Below.drew ?_ | (refine Below.alloc ?_ (by simp) _))
    · by_cases h3 : Fr.held aq ≤ Fr.held sd
      · have hfin : RCv f wh er sd aq st = true := by unfold RCv; simp [h1, h2, h3]
        have H := Lib.hid hfin
        clear hfin
        go_enter Try.func21, Try.ntmps21
        go_wp2_with (first | (go_at_call 14; refine (RHeld_any _ _).mono ?_; rintro e w' ⟨rfl, rfl⟩))
        go_ret
        refine ⟨ret_b H.out.symm, ?_⟩
        repeat (with_reducible first | exact Below.refl _ _ | refine below_drewN ?_ _ | refine Below.drew ?_ | (refine Below.alloc ?_ (by simp) _))
      · have hfin : RCv f wh er sd aq st = decide (RSt f wh er sd aq ≤ st) := by unfold RCv; simp [h1, h2, h3]
        have H := Lib.hid hfin
        clear hfin
        go_enter Try.func21, Try.ntmps21
        go_wp2_with (first | (go_at_call 14; refine (RHeld_any _ _).mono ?_; rintro e w' ⟨rfl, rfl⟩) | (go_at_call 15; refine (RState_any _ _ _ _ _ _ _ _ _ _ _ _ _ _).mono ?_; rintro e w1 ⟨rfl, hb⟩))
        go_ret
        refine ⟨ret_b (by rw [H.out]; simp; omega), ?_⟩
        have hb' : Below w.heap.size _ _ := hb.mono (by simp)
        repeat (with_reducible first | exact Below.refl _ _ | (refine Below.trans ?_ hb') | refine below_drewN ?_ _ | refine Below.drew ?_ | (refine Below.alloc ?_ (by simp) _))
end Go.Proofs.Ytedncfpcbdnpjaa

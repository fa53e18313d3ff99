/- The laws' own examples (wakes) hold in every world. -/
import Derived.Test.YtedncfpcbdnpjaaFd
namespace Go.Proofs.Ytedncfpcbdnpjaa
open Go.RowKit
theorem bl_step {B B' : Nat} {a b c : World} (h : Below B' b c) (hB : B ≤ B') (k : Below B a b) : Below B a c := k.trans (h.mono hB)
theorem st_eq (f wh e s n : Int) : RSt f wh e s n = St f wh e s n := by
  unfold RSt St
  repeat' split
  all_goals omega
theorem rcv_eq (f wh e s n k : Int) : RCv f wh e s n k = Cv f wh e s n k := by
  unfold RCv Cv; rw [st_eq]
theorem RState_st (x0 x1 x2 x3 x4 x8 x9 x10 : Value) (f wh er s n : Int) (w : World) :
    Calls Try.prog 15 #[meta_ x0 x1 x2 x3 x4 x8 x9 x10 f wh er, .int .i64 s, .int .i64 n] w fun e w' => e = .returned (.int .i64 (St f wh er s n)) ∧ Below w.heap.size w w' := by
  have h := RState_any x0 x1 x2 x3 x4 x8 x9 x10 f wh er s n w
  rw [st_eq] at h
  exact h
theorem RCovers_cv (x0 x1 x2 x3 x4 x8 x9 x10 : Value) (f wh er s n k : Int) (w : World) :
    Calls Try.prog 21 #[meta_ x0 x1 x2 x3 x4 x8 x9 x10 f wh er, .int .i64 s, .int .i64 n, .int .i64 k] w fun e w' => e = .returned (.bool (Cv f wh er s n k)) ∧ Below w.heap.size w w' := by
  have h := RCovers_any x0 x1 x2 x3 x4 x8 x9 x10 f wh er s n k w
  rw [rcv_eq] at h
  exact h
set_option maxHeartbeats 4000000 in
theorem wakes_any (w : World) :
    Calls Try.prog 9 #[] w fun e w' => e = .returned (.bool true) ∧ Below w.heap.size w w' := by
  have e1 : St 5 3 10 100 104 = 1 := by decide
  have e2 : St 5 3 10 100 105 = 2 := by decide
  have e3 : St 5 3 10 100 108 = 3 := by decide
  have e4 : St 5 3 10 100 115 = 4 := by decide
  have e5 : Fr.held 100 + Un 5 3 10 3 = 115 := by decide
  go_enter Try.func9, Try.ntmps9
  go_wp2_with (first | (go_at_call 13; refine (State_any _ _ _ _ _ _ _ _ _ _ _ _ _ _).mono ?_; rintro e w1 ⟨rfl, hb⟩; have hz : w.heap.size < w1.heap.size := (by have hz0 := hb.size; (try simp at hz0); omega); obtain ⟨hc, hf⟩ := bcell hb; clear hf) | (go_at_call 10; refine (Until_any _ _ _ _ _ _ _ _ _ _ _ _ _ _ (by decide)).mono ?_; rintro e w1 ⟨rfl, hb⟩; have hz : w.heap.size < w1.heap.size := (by have hz0 := hb.size; (try simp at hz0); omega); obtain ⟨hc, hf⟩ := bcell hb; clear hf))
  go_ret
  refine ⟨ret_b (by simp), ?_⟩
  repeat (with_reducible first | exact Below.refl _ _ | (refine bl_step (by assumption) (by first | omega | (simp; done) | (simp; omega)) ?_) | refine below_drewN ?_ _ | refine Below.drew ?_ | (refine Below.alloc ?_ (by simp) _) | refine Below.setCell ?_ (by simp) _)
end Go.Proofs.Ytedncfpcbdnpjaa

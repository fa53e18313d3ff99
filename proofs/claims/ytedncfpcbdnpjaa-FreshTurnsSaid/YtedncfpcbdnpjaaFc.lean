/- The contract of fresh.Until for the states 1, 2 and 3. -/
import Derived.Test.YtedncfpcbdnpjaaFb
import Derived.Lib.Hide
namespace Go.Proofs.Ytedncfpcbdnpjaa
open Go.RowKit
/-- When a state is over. -/
def Un (f wh e : Int) (k : Int) : Int := if k = 1 then Fr.held f else if k = 2 then Fr.held f + Fr.held wh else Fr.held f + max (Fr.held wh) (Fr.held e)
theorem Un_bd (f wh e k : Int) : 0 ≤ Un f wh e k ∧ Un f wh e k ≤ 3298534883328 := by
  have h1 := Fr.held_bd f
  have h2 := Fr.held_bd wh
  have h3 := Fr.held_bd e
  unfold Un
  repeat' split
  all_goals omega
theorem Un1 (f wh e : Int) : Un f wh e 1 = Fr.held f := rfl
theorem Un2 (f wh e : Int) : Un f wh e 2 = Fr.held f + Fr.held wh := rfl
theorem Un3 (f wh e : Int) : Un f wh e 3 = Fr.held f + max (Fr.held wh) (Fr.held e) := rfl
theorem ix1 (a b c d : Int) (w : World) : (Instr.index 43 (.agg #[.int .i64 a, .int .i64 b, .int .i64 c, .int .i64 d]) (.int .i64 1)).run Try.prog w = .ok (.int .i64 b) w := by kernel_rfl
theorem ix2 (a b c d : Int) (w : World) : (Instr.index 43 (.agg #[.int .i64 a, .int .i64 b, .int .i64 c, .int .i64 d]) (.int .i64 2)).run Try.prog w = .ok (.int .i64 c) w := by kernel_rfl
theorem ix3 (a b c d : Int) (w : World) : (Instr.index 43 (.agg #[.int .i64 a, .int .i64 b, .int .i64 c, .int .i64 d]) (.int .i64 3)).run Try.prog w = .ok (.int .i64 d) w := by kernel_rfl
set_option maxHeartbeats 4000000 in
theorem Until_any (x0 x1 x2 x3 x4 x8 x9 x10 : Value) (f wh er s k : Int) (w : World) (hk : k = 1 ∨ k = 2 ∨ k = 3) :
    Calls Try.prog 10 #[meta_ x0 x1 x2 x3 x4 x8 x9 x10 f wh er, .int .i64 s, .int .i64 k] w fun e w' => e = .returned (.int .i64 (Fr.held s + Un f wh er k)) ∧ Below w.heap.size w w' := by
  obtain ⟨b1, b2⟩ := Fr.held_bd f
  obtain ⟨b3, b4⟩ := Fr.held_bd wh
  obtain ⟨b5, b6⟩ := Fr.held_bd er
  obtain ⟨b7, b8⟩ := Fr.held_bd s
  obtain ⟨b9, b10⟩ := Un_bd f wh er k
  have i1 := ix1
  have i2 := ix2
  have i3 := ix3
  rcases hk with rfl | rfl | rfl
  all_goals
    go_enter Try.func10, Try.ntmps10
    go_wp2_with fail
    go_region_with (first
        | (go_at_call 22; refine (held_any _ _).mono ?_; rintro e w' ⟨rfl, rfl⟩)
        | (go_at_call 23; refine (ends_any _ _ _ _ _ _ _ _ _ _ _ _).mono ?_; rintro e w1 ⟨rfl, hb⟩; have hz := hb.size; simp at hz; obtain ⟨hc, hf⟩ := bcell hb))
    all_goals
      go_wp2
      go_ret
      refine ⟨ret_i ?_, ?_⟩
      · (first | rw [Un1] | rw [Un2] | rw [Un3]); try (exact IntWalk.i64_in _ (by omega))
      have hb' : Below w.heap.size _ _ := hb.mono (by simp)
      repeat (with_reducible first | exact Below.refl _ _ | (refine Below.trans ?_ hb') | refine below_drewN ?_ _ | refine Below.drew ?_ | (refine Below.alloc ?_ (by first | omega | (simp; done) | (simp; omega)) _) | refine Below.setCell ?_ (by simp) _)
end Go.Proofs.Ytedncfpcbdnpjaa

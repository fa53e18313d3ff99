/- The contract of fresh.State: for every version, tick and tick, without a condition. -/
import Derived.Test.YtedncfpcbdnpjaaFa
namespace Go.Proofs.Ytedncfpcbdnpjaa
open Go.RowKit
def St (f wh e s n : Int) : Int := if Fr.age s n < Fr.held f then 1 else if Fr.age s n < Fr.held f + Fr.held wh then 2 else if Fr.age s n < Fr.held f + max (Fr.held wh) (Fr.held e) then 3 else 4
set_option maxHeartbeats 4000000 in
theorem State_any (x0 x1 x2 x3 x4 x8 x9 x10 : Value) (f wh er s n : Int) (w : World) :
    Calls Try.prog 13 #[meta_ x0 x1 x2 x3 x4 x8 x9 x10 f wh er, .int .i64 s, .int .i64 n] w fun e w' => e = .returned (.int .i64 (St f wh er s n)) ∧ Below w.heap.size w w' := by
  obtain ⟨b1, b2⟩ := Fr.held_bd f
  obtain ⟨b3, b4⟩ := Fr.held_bd wh
  obtain ⟨b5, b6⟩ := Fr.held_bd er
  go_enter Try.func13, Try.ntmps13
  go_upto_region 1 with fail
  go_cut [7, 8] (fun s7 s8 wx => s7 = .int .i64 (Fr.age s n) ∧ ∃ g : Nat, s8 = .pointer (some ⟨g, 0, none⟩) ∧ w.heap.size ≤ g ∧ Blk wx g 43 #[.int .i64 0, .int .i64 (Fr.held f), .int .i64 (Fr.held f + Fr.held wh), .int .i64 (Fr.held f + max (Fr.held wh) (Fr.held er))] ∧ Below w.heap.size w wx)
  case first =>
    go_region_with (first
        | (go_at_call 16; refine (Age_any _ _ _).mono ?_; rintro e w' ⟨rfl, rfl⟩)
        | (go_at_call 23; refine (ends_any _ _ _ _ _ _ _ _ _ _ _ _).mono ?_; rintro e w1 ⟨rfl, hb⟩; have hz := hb.size; simp at hz; obtain ⟨hc, hf⟩ := bcell hb))
    all_goals go_wp2_with fail
    all_goals go_meet
    all_goals
      refine ⟨rfl, _, rfl, ?_, ?_, ?_⟩
      · first | omega | (simp; done) | (simp; omega)
      · first
          | with_reducible exact Blk.new _ _ _
          | (have hk := (Blk.new1 w (Obj.cells #[x0, x1, x2, x3, x4, .int .i64 f, .int .i64 wh, .int .i64 er, x8, x9, x10] 30) #[.int .i64 0, .int .i64 0, .int .i64 0, .int .i64 0] 43).drew.below hb (by simp)
             have hk2 := (((hk.set_ 0 (.int .i64 0)).set_ 1 (.int .i64 (Fr.held f))).set_ 2 (.int .i64 (Fr.held f + Fr.held wh))).set_ 3 (.int .i64 (Fr.held f + max (Fr.held wh) (Fr.held er)))
             exact hk2)
      · have hb' : Below w.heap.size _ _ := hb.mono (by simp; try omega)
        repeat (with_reducible first | exact Below.refl _ _ | (refine Below.trans ?_ hb') | refine below_drewN ?_ _ | refine Below.drew ?_ | (refine Below.alloc ?_ (by first | omega | (simp; done) | (simp; omega)) _) | refine Below.setCell ?_ (by simp) _)
  case rest => 
    obtain ⟨rfl, g, rfl, hg, hbl, hB⟩ := hcut
    have h0 := hbl.cell 0
    have h1 := hbl.cell 1
    have h2 := hbl.cell 2
    have h3 := hbl.cell 3
    simp at h0 h1 h2 h3
    clear hbl
    go_wp2_with fail
    go_loop [9] (fun v => (v = .int .i64 1) ∨ (v = .int .i64 2 ∧ Fr.held f ≤ Fr.age s n) ∨ (v = .int .i64 3 ∧ Fr.held f + Fr.held wh ≤ Fr.age s n) ∨ (v = .int .i64 4 ∧ Fr.held f + max (Fr.held wh) (Fr.held er) ≤ Fr.age s n)) (fun v => 4 - (intOf v).toNat)
    case atStart => exact .inl rfl
    case round =>
      rcases hrel with rfl | ⟨rfl, q1⟩ | ⟨rfl, q1⟩ | ⟨rfl, q1⟩
      all_goals go_wp2
      all_goals first
        | (go_ret
           refine ⟨ret_i ?_, hB⟩
           unfold St
           repeat (first | rw [if_pos (by omega)] | rw [if_neg (by omega)])
           done)
        | (go_round
           case rel => first | exact .inr (.inl ⟨rfl, by omega⟩) | exact .inr (.inr (.inl ⟨rfl, by omega⟩)) | exact .inr (.inr (.inr ⟨rfl, by omega⟩))
           case measure => simp [intOf])
end Go.Proofs.Ytedncfpcbdnpjaa

/- What no disk tells. -/
import Derived.Test.YtbgjfdeolckljaaDi
namespace Go.Proofs.Ytbgjfdeolckljaa
set_option linter.unusedVariables false
set_option linter.unusedSimpArgs false
set_option linter.unnecessarySimpa false
open Go.RowKit Go.Proofs.YtbgjfdeolckljaaW.PrintLast
set_option maxRecDepth 20000 in
theorem Cut_nil {v : Value} (t : Int) (w : World) : Calls Try.prog 14 #[.pointer none, v, .int .i64 t] w fun e w' => e = .returned (.tuple #[]) ∧ w = w' := by
  go_enter Try.func14, Try.ntmps14
  go_wp2_with (go_at_call 23; (refine (may_nil _ _).mono ?_); rintro e w2 ⟨rfl, rfl⟩)
  exact bodyPost_ret (v := .tuple #[]) (by simp [results, Try.results14, go_sem]) rfl ⟨rfl, rfl⟩
set_option maxRecDepth 20000 in
theorem On_nil  (w : World) : Calls Try.prog 15 #[.pointer none] w fun e w' => e = .returned (.tuple #[]) ∧ w = w' := by
  go_enter Try.func15, Try.ntmps15
  go_wp2_with (go_at_call 23; (refine (may_nil _ _).mono ?_); rintro e w2 ⟨rfl, rfl⟩)
  go_end0
  exact ⟨rfl, rfl⟩
set_option maxRecDepth 20000 in
theorem Read_nil (t : Int) (w : World) : Calls Try.prog 17 #[.pointer none, .int .i64 t] w fun e w' => e = .returned (.tuple #[.slice none 0 0, .int .i64 6]) ∧ w = w' := by
  go_enter Try.func17, Try.ntmps17
  go_wp2_with (go_at_call 23; (refine (may_nil _ _).mono ?_); rintro e w2 ⟨rfl, rfl⟩)
  go_ret2
  exact ⟨rfl, rfl⟩
set_option maxRecDepth 20000 in
theorem Size_nil  (w : World) : Calls Try.prog 18 #[.pointer none] w fun e w' => e = .returned (.tuple #[.int .i64 0, .int .i64 0]) ∧ w = w' := by
  go_enter Try.func18, Try.ntmps18
  go_wp2_with (go_at_call 23; (refine (may_nil _ _).mono ?_); rintro e w2 ⟨rfl, rfl⟩)
  go_ret2
  exact ⟨rfl, rfl⟩
set_option maxRecDepth 20000 in
theorem Write_nil {v : Value} (t : Int) (w : World) : Calls Try.prog 12 #[.pointer none, .int .i64 t, v] w fun e w' => e = .returned (.int .i64 6) ∧ w = w' := by
  go_enter Try.func12, Try.ntmps12
  go_wp2_with (go_at_call 23; (refine (may_nil _ _).mono ?_); rintro e w2 ⟨rfl, rfl⟩)
  go_ret
  exact ⟨rfl, rfl⟩
set_option maxRecDepth 20000 in
theorem Flush_nil  (w : World) : Calls Try.prog 11 #[.pointer none] w fun e w' => e = .returned (.int .i64 6) ∧ w = w' := by
  go_enter Try.func11, Try.ntmps11
  go_wp2_with (go_at_call 23; (refine (may_nil _ _).mono ?_); rintro e w2 ⟨rfl, rfl⟩)
  go_ret
  exact ⟨rfl, rfl⟩
set_option maxRecDepth 20000 in
theorem Rot_nil (t u : Int) (w : World) : Calls Try.prog 19 #[.pointer none, .int .i64 t, .int .i64 u] w fun e w' => e = .returned (.int .i64 6) ∧ w = w' := by
  go_enter Try.func19, Try.ntmps19
  go_wp2_with (go_at_call 23; (refine (may_nil _ _).mono ?_); rintro e w2 ⟨rfl, rfl⟩)
  go_ret
  exact ⟨rfl, rfl⟩
set_option maxRecDepth 20000 in
theorem Waits_nil  (w : World) : Calls Try.prog 16 #[.pointer none] w fun e w' => e = .returned (.int .i64 0) ∧ w = w' := by
  go_enter Try.func16, Try.ntmps16
  go_wp2_with (go_at_call 23; (refine (may_nil _ _).mono ?_); rintro e w2 ⟨rfl, rfl⟩)
  go_ret
  exact ⟨rfl, rfl⟩
set_option maxRecDepth 20000 in
set_option maxHeartbeats 4000000 in
theorem DiskNil_any (n : Int) (b k : Value) (w : World) :
    Calls Try.prog 8 #[.int .i64 n, b, k] w fun e w' => e = .returned (.bool true) ∧ Below w.heap.size w w' := by
  have HO := Own.nil w
  go_enter Try.func8, Try.ntmps8
  go_wp2_with (first | (go_at_call 9; (refine (alive_any HO).mono ?_); rintro e w2 ⟨rfl, HO1⟩; clear HO; have HO := HO1; clear HO1) | (go_at_call 14; (refine (Cut_nil _ _).mono ?_); rintro e w2 ⟨rfl, rfl⟩) | (go_at_call 15; (refine (On_nil _).mono ?_); rintro e w2 ⟨rfl, rfl⟩) | (go_at_call 17; (refine (Read_nil _ _).mono ?_); rintro e w2 ⟨rfl, rfl⟩) | (go_at_call 18; (refine (Size_nil _).mono ?_); rintro e w2 ⟨rfl, rfl⟩) | (go_at_call 12; (refine (Write_nil _ _).mono ?_); rintro e w2 ⟨rfl, rfl⟩) | (go_at_call 11; (refine (Flush_nil _).mono ?_); rintro e w2 ⟨rfl, rfl⟩) | (go_at_call 19; (refine (Rot_nil _ _ _).mono ?_); rintro e w2 ⟨rfl, rfl⟩) | (go_at_call 16; (refine (Waits_nil _).mono ?_); rintro e w2 ⟨rfl, rfl⟩))
  go_ret
  exact ⟨rfl, HO.below⟩
end Go.Proofs.Ytbgjfdeolckljaa

/- The sum of bytes, by the code and by the reference. -/
import Derived.Test.YtaidfofcijnbeaaSa
namespace Go.Proofs.Ytaidfofcijnbeaa
set_option linter.unusedVariables false
set_option linter.unusedSimpArgs false
set_option linter.unnecessarySimpa false
open Go.RowKit
set_option maxRecDepth 20000 in
theorem Of_any {w : World} {v : Value} {l : List (BitVec 8)} (hl : Bs w v l) :
    Calls Try.prog 9 #[v] w fun e w' => e = .returned (Crc.vi (Crc.crc l)) ∧ w = w' := by
  go_enter Try.func9, Try.ntmps9
  go_wp2_with (go_at_call 11; refine (More_any 0#32 hl).mono ?_; rintro e w2 ⟨rfl, rfl⟩)
  go_ret
  exact ⟨rfl, rfl⟩
set_option maxRecDepth 20000 in
theorem ROf_any {w : World} {v : Value} {l : List (BitVec 8)} (hl : Bs w v l) :
    Calls Try.prog 10 #[v] w fun e w' => e = .returned (Crc.vi (Crc.crc l)) ∧ w = w' := by
  go_enter Try.func10, Try.ntmps10
  go_wp2_with (go_at_call 12; refine (RMore_any 0#32 hl).mono ?_; rintro e w2 ⟨rfl, rfl⟩)
  go_ret
  exact ⟨rfl, rfl⟩
end Go.Proofs.Ytaidfofcijnbeaa

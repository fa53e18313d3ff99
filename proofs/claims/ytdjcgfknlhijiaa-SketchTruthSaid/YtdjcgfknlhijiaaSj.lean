/- What the laws on hashes and on new sketches compute. -/
import Derived.Test.YtdjcgfknlhijiaaSi
namespace Go.Proofs.Ytdjcgfknlhijiaa
set_option linter.unusedVariables false
set_option linter.unusedSimpArgs false
set_option linter.unnecessarySimpa false
open Go.RowKit Go.Proofs.YtdjcgfknlhijiaaW.PrintLast
theorem below_of_own {w w' : World} {L : List Ent} (h : Own w w' L) : Below w.heap.size w w' := h.below
set_option maxRecDepth 20000 in
set_option maxHeartbeats 4000000 in
theorem SketchHashes_any (s : ByteArray) (w : World) (hs : s.size ≤ 140737488351232) : Calls Try.prog 8 #[.string s] w fun e w' => e = .returned (.bool true) ∧ Below w.heap.size w w' := by
  have HO := Own.nil w
  by_cases h : 600 < s.size
  · have hd : decide ((600 : Int) < (s.size : Int)) = true := decide_eq_true (by omega)
    go_enter Try.func8, Try.ntmps8
    go_wp2_with (first | (go_at_call 9; refine (awake_any HO).mono ?_; rintro e w2 ⟨rfl, HO1⟩; clear HO; have HO := HO1; clear HO1))
    go_ret
    exact ⟨rfl, HO.below⟩
  · have hd : decide ((600 : Int) < (s.size : Int)) = false := decide_eq_false (by omega)
    obtain ⟨H, hH⟩ : ∃ H, Sk.hashTo s s.size = H := ⟨_, rfl⟩
    go_enter Try.func8, Try.ntmps8
    go_wp2_with (first | (go_at_call 20; refine (Hash_any s _ hs).mono ?_; rw [hH]; rintro e w2 ⟨rfl, rfl⟩) | (go_at_call 21; refine (RHash_any s _ hs).mono ?_; rw [hH]; rintro e w2 ⟨rfl, rfl⟩) | (go_at_call 9; refine (awake_any HO).mono ?_; rintro e w2 ⟨rfl, HO1⟩; clear HO; have HO := HO1; clear HO1))
    go_ret
    exact ⟨rfl, HO.below⟩
set_option maxRecDepth 20000 in
set_option maxHeartbeats 4000000 in
theorem SketchNew_any (a b c : Int) (w : World) : Calls Try.prog 4 #[.int .i64 a, .int .i64 b, .int .i64 c] w fun e w' => e = .returned (.bool true) ∧ Below w.heap.size w w' := by
  have HO := Own.nil w
  by_cases h8 : 8 < a ∧ 1048576 < b
  · have hd1 : decide (8 < a) = true := decide_eq_true h8.1
    have hd2 : decide (1048576 < b) = true := decide_eq_true h8.2
    have hr : Sk.right a 1048576 c = false := by unfold Sk.right; simp
    have H := Lib.hid hr
    clear hr h8
    go_enter Try.func4, Try.ntmps4
    go_wp2_with (first | (go_at_call 11; refine (SNew_no _ _ _ _ H.out).mono ?_; rintro e w2 ⟨rfl, rfl⟩) | (go_at_call 12; refine (Right_any _ _ _ _).mono ?_; rw [H.out]; rintro e w2 ⟨rfl, rfl⟩) | (go_at_call 9; refine (awake_any HO).mono ?_; rintro e w2 ⟨rfl, HO1⟩; clear HO; have HO := HO1; clear HO1))
    go_ret
    exact ⟨rfl, HO.below⟩
  · have hd0 : (decide (8 < a) && decide (1048576 < b)) = false := by simp; omega
    rcases Bool.eq_false_or_eq_true (Sk.right a b c) with hr | hr
    · obtain ⟨r1, r2, r3, r4, r5, r6⟩ : 1 ≤ a ∧ a ≤ 8 ∧ 1 ≤ b ∧ b ≤ 65536 ∧ 1 ≤ c ∧ c ≤ 1099511627776 := by unfold Sk.right at hr; simp at hr; omega
      have hd1 : decide (8 < a) = false := decide_eq_false (by omega)
      have H := Lib.hid hr
      clear hr h8 hd0
      obtain ⟨rows, rfl⟩ : ∃ r : Nat, a = r := ⟨a.toNat, by omega⟩
      obtain ⟨wd, rfl⟩ : ∃ r : Nat, b = r := ⟨b.toNat, by omega⟩
      have hw1 : IntKind.u64.wrap (wd : Int) = wd := IntWalk.u64_in _ (by omega)
      go_enter Try.func4, Try.ntmps4
      go_wp2_with (first | (go_at_call 11; refine (SNew_yes rows wd c HO (by omega) (by omega) (by omega) (by omega) (by omega) (by omega)).mono ?_; rintro e w2 ⟨g, gr, cap, R, rfl, HO1, hR, hz⟩; clear HO; have HO := HO1; clear HO1; have hS := Sk.zero_shape hz (by omega) (by omega) (by omega) (by omega); have hc := Sk.count_at hS (Sk.at_zero hz wd)) | (go_at_call 12; refine (Right_any _ _ _ _).mono ?_; rw [H.out]; rintro e w2 ⟨rfl, rfl⟩) | (go_at_call 19; refine (Adds_any HO).mono ?_; rintro e w2 ⟨rfl, rfl⟩) | (go_at_call 17; refine (Count_any wd HO (by omega) (by omega) hS).mono ?_; rw [hc]; rintro e w2 ⟨rfl, rfl⟩) | (go_at_call 9; refine (awake_any HO).mono ?_; rintro e w2 ⟨rfl, HO1⟩; clear HO; have HO := HO1; clear HO1))
      go_ret
      exact ⟨rfl, HO.below⟩
    · have H := Lib.hid hr
      clear hr
      rcases Bool.eq_false_or_eq_true (decide (8 < a)) with hd1 | hd1
      · have hd2 : decide (1048576 < b) = false := decide_eq_false (by have := of_decide_eq_true hd1; omega)
        clear h8 hd0
        go_enter Try.func4, Try.ntmps4
        go_wp2_with (first | (go_at_call 11; refine (SNew_no _ _ _ _ H.out).mono ?_; rintro e w2 ⟨rfl, rfl⟩) | (go_at_call 12; refine (Right_any _ _ _ _).mono ?_; rw [H.out]; rintro e w2 ⟨rfl, rfl⟩) | (go_at_call 9; refine (awake_any HO).mono ?_; rintro e w2 ⟨rfl, HO1⟩; clear HO; have HO := HO1; clear HO1))
        go_ret
        exact ⟨rfl, HO.below⟩
      · clear h8 hd0
        go_enter Try.func4, Try.ntmps4
        go_wp2_with (first | (go_at_call 11; refine (SNew_no _ _ _ _ H.out).mono ?_; rintro e w2 ⟨rfl, rfl⟩) | (go_at_call 12; refine (Right_any _ _ _ _).mono ?_; rw [H.out]; rintro e w2 ⟨rfl, rfl⟩) | (go_at_call 9; refine (awake_any HO).mono ?_; rintro e w2 ⟨rfl, HO1⟩; clear HO; have HO := HO1; clear HO1))
        go_ret
        exact ⟨rfl, HO.below⟩
end Go.Proofs.Ytdjcgfknlhijiaa

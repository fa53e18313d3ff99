/- The walks of RetryNews, RetryNil and RetryBlows: each returns true, for every input. -/
import Derived.Test.YtmpoidkgjnkjcaaRe
namespace Go.Proofs.Ytmpoidkgjnkjcaa
set_option linter.unusedVariables false
set_option linter.unusedSimpArgs false
set_option linter.unnecessarySimpa false
open Go.RowKit Go.Proofs.YtmpoidkgjnkjcaaW.PrintLast
set_option maxHeartbeats 4000000 in
theorem RNewFuse_any (n r : Int) (w : World) :
    Calls Try.prog 20 #[.int .i64 n, .int .i64 r] w fun e w' => e = .returned (.tuple #[if Rt.okf n r = true then .agg ⟨fusl n r 0 0⟩ else .agg ⟨fusl 0 0 0 0⟩, .int .i64 (if Rt.okf n r = true then 0 else 1)]) ∧ Below w.heap.size w w' := by
  have HO := Own.nil w
  by_cases h : Rt.okf n r = true
  · rw [if_pos h, if_pos h]
    unfold Rt.okf Rt.rests at h
    simp only [Bool.and_eq_true, decide_eq_true_eq] at h
    obtain ⟨⟨h1, h2⟩, h3, h4⟩ := h
    go_enter Try.func20, Try.ntmps20
    go_wp2_with (first | (refine li_alloc (t := 51) rfl rfl (z := .agg #[.int .i64 0, .int .i64 0, .int .i64 0, .int .i64 0]) (cs := [.int .i64 0, .int .i64 0, .int .i64 0, .int .i64 0]) (by kernel_rfl) rfl HO ?_; clear HO; intro ga wa HO) | ((with_reducible refine gate_store 51 rfl ?_); first | (refine li_storeAgg 0 51 rfl rfl rfl rfl HO rfl rfl rfl rfl (by kernel_rfl) ?_; clear HO; intro ws HO; (try simp only [List.set_cons_zero, List.set_cons_succ] at HO))))
    refine bodyPost_ret (v := .tuple #[.agg ⟨fusl n r 0 0⟩, .int .i64 0]) ?_ rfl ⟨rfl, HO.below⟩
    simp [results, Try.results20, asAddr, HO.loadWhole (P := Try.prog) 0 rfl 51 4 rfl (by kernel_rfl) (by kernel_rfl) (by kernel_rfl)]
  · rw [if_neg h, if_neg h]
    have hor : n < 1 ∨ (1 ≤ n ∧ 1000 < n) ∨ (1 ≤ n ∧ n ≤ 1000 ∧ r < 1) ∨ (1 ≤ n ∧ n ≤ 1000 ∧ 1 ≤ r ∧ 1099511627776 < r) := by
      unfold Rt.okf Rt.rests at h
      simp at h
      omega
    clear h
    rcases hor with h1 | ⟨h1, h2⟩ | ⟨h1, h2, h3⟩ | ⟨h1, h2, h3, h4⟩
    all_goals
      go_enter Try.func20, Try.ntmps20
      go_wp2_with (first | (refine li_alloc (t := 51) rfl rfl (z := .agg #[.int .i64 0, .int .i64 0, .int .i64 0, .int .i64 0]) (cs := [.int .i64 0, .int .i64 0, .int .i64 0, .int .i64 0]) (by kernel_rfl) rfl HO ?_; clear HO; intro ga wa HO) | ((with_reducible refine gate_store 51 rfl ?_); first | (refine li_storeAgg 0 51 rfl rfl rfl rfl HO rfl rfl rfl rfl (by kernel_rfl) ?_; clear HO; intro ws HO; (try simp only [List.set_cons_zero, List.set_cons_succ] at HO))))
      refine bodyPost_ret (v := .tuple #[.agg ⟨fusl 0 0 0 0⟩, .int .i64 1]) ?_ rfl ⟨rfl, HO.below⟩
      simp [results, Try.results20, asAddr, HO.loadWhole (P := Try.prog) 0 rfl 51 4 rfl (by kernel_rfl) (by kernel_rfl) (by kernel_rfl)]
theorem alive_O {w0 w : World} {L : List Ent} (HO : Own w0 w L) : Calls Try.prog 8 #[] w fun e w' => e = .returned (.bool true) ∧ Own w0 w' L :=
  (alive_any w).mono fun _ _ ⟨he, hb⟩ => ⟨he, HO.next hb⟩
theorem O_New_some {w0 w : World} {L : List Ent} (n f m : Int) (HO : Own w0 w L) (h : Rt.ok n f m = true) :
    Calls Try.prog 9 #[.int .i64 n, .int .i64 f, .int .i64 m] w fun e w' => ∃ g, e = .returned (.tuple #[.pointer (some ⟨g, 0, none⟩), .int .i64 0]) ∧ Own w0 w' L :=
  (O_New n f m HO h).mono fun _ _ ⟨g, he, h1⟩ => ⟨g, he, h1.tail⟩
theorem O_NewFuse_some {w0 w : World} {L : List Ent} (n r : Int) (HO : Own w0 w L) (h : Rt.okf n r = true) :
    Calls Try.prog 19 #[.int .i64 n, .int .i64 r] w fun e w' => ∃ g, e = .returned (.tuple #[.pointer (some ⟨g, 0, none⟩), .int .i64 0]) ∧ Own w0 w' L :=
  (O_NewFuse n r HO h).mono fun _ _ ⟨g, he, h1⟩ => ⟨g, he, h1.tail⟩
theorem RNew_yes (n f m : Int) (w : World) (h : Rt.ok n f m = true) :
    Calls Try.prog 10 #[.int .i64 n, .int .i64 f, .int .i64 m] w fun e w' => e = .returned (.tuple #[.agg ⟨timl n f m 0 0⟩, .int .i64 0]) ∧ Below w.heap.size w w' := by
  have k := RNew_any n f m w
  rw [if_pos h, if_pos h] at k
  exact k
theorem RNew_no (n f m : Int) (w : World) (h : Rt.ok n f m = false) :
    Calls Try.prog 10 #[.int .i64 n, .int .i64 f, .int .i64 m] w fun e w' => e = .returned (.tuple #[.agg ⟨timl 0 0 0 0 0⟩, .int .i64 1]) ∧ Below w.heap.size w w' := by
  have k := RNew_any n f m w
  rw [if_neg (by simp [h]), if_neg (by simp [h])] at k
  exact k
theorem RNewFuse_yes (n r : Int) (w : World) (h : Rt.okf n r = true) :
    Calls Try.prog 20 #[.int .i64 n, .int .i64 r] w fun e w' => e = .returned (.tuple #[.agg ⟨fusl n r 0 0⟩, .int .i64 0]) ∧ Below w.heap.size w w' := by
  have k := RNewFuse_any n r w
  rw [if_pos h, if_pos h] at k
  exact k
theorem RNewFuse_no (n r : Int) (w : World) (h : Rt.okf n r = false) :
    Calls Try.prog 20 #[.int .i64 n, .int .i64 r] w fun e w' => e = .returned (.tuple #[.agg ⟨fusl 0 0 0 0⟩, .int .i64 1]) ∧ Below w.heap.size w w' := by
  have k := RNewFuse_any n r w
  rw [if_neg (by simp [h]), if_neg (by simp [h])] at k
  exact k
set_option maxHeartbeats 8000000 in
theorem RetryNews_any (n f m : Int) (w : World) :
    Calls Try.prog 5 #[.int .i64 n, .int .i64 f, .int .i64 m] w fun e w' => e = .returned (.bool true) ∧ Below w.heap.size w w' := by
  have HO := Own.nil w
  by_cases h1 : Rt.ok n f m = true
  · have H1 := Lib.hid h1
    clear h1
    by_cases h2 : Rt.okf n f = true
    · have H2 := Lib.hid h2
      clear h2
      go_enter Try.func5, Try.ntmps5
      go_wp2_with (first | (refine li_alloc (t := 30) rfl rfl (z := .agg #[.int .i64 0, .int .i64 0, .int .i64 0, .int .i64 0, .int .i64 0]) (cs := [.int .i64 0, .int .i64 0, .int .i64 0, .int .i64 0, .int .i64 0]) (by kernel_rfl) rfl HO ?_; clear HO; intro ga wa HO) | ((with_reducible refine gate_store 30 rfl ?_); first | (refine li_storeAgg 0 30 rfl rfl rfl rfl HO rfl rfl rfl rfl (by kernel_rfl) ?_; clear HO; intro ws HO; (try simp only [List.set_cons_zero, List.set_cons_succ] at HO)) | (refine li_storeAgg 1 30 rfl rfl rfl rfl HO rfl rfl rfl rfl (by kernel_rfl) ?_; clear HO; intro ws HO; (try simp only [List.set_cons_zero, List.set_cons_succ] at HO))) | (refine li_alloc (t := 51) rfl rfl (z := .agg #[.int .i64 0, .int .i64 0, .int .i64 0, .int .i64 0]) (cs := [.int .i64 0, .int .i64 0, .int .i64 0, .int .i64 0]) (by kernel_rfl) rfl HO ?_; clear HO; intro ga wa HO) | ((with_reducible refine gate_store 51 rfl ?_); first | (refine li_storeAgg 0 51 rfl rfl rfl rfl HO rfl rfl rfl rfl (by kernel_rfl) ?_; clear HO; intro ws HO; (try simp only [List.set_cons_zero, List.set_cons_succ] at HO)) | (refine li_storeAgg 1 51 rfl rfl rfl rfl HO rfl rfl rfl rfl (by kernel_rfl) ?_; clear HO; intro ws HO; (try simp only [List.set_cons_zero, List.set_cons_succ] at HO))) | (go_at_call 8; refine (alive_O HO).mono ?_; rintro e w1 ⟨rfl, HO1⟩; clear HO; have HO := HO1; clear HO1) | (go_at_call 9; refine (O_New_some _ _ _ HO H1.out).mono ?_; rintro e w1 ⟨gt, rfl, HO1⟩; clear HO; have HO := HO1; clear HO1) | (go_at_call 19; refine (O_NewFuse_some _ _ HO H2.out).mono ?_; rintro e w1 ⟨gf, rfl, HO1⟩; clear HO; have HO := HO1; clear HO1) | (go_at_call 10; refine (RNew_yes _ _ _ _ H1.out).mono ?_; rintro e w1 ⟨rfl, hb⟩; replace HO := HO.next hb; clear hb) | (go_at_call 20; refine (RNewFuse_yes _ _ _ H2.out).mono ?_; rintro e w1 ⟨rfl, hb⟩; replace HO := HO.next hb; clear hb))
      go_ret
      exact ⟨ret_b (by simp), HO.below⟩
    · have H2 : Hid (Rt.okf n f = false) := by simpa [Hid] using h2
      clear h2
      go_enter Try.func5, Try.ntmps5
      go_wp2_with (first | (refine li_alloc (t := 30) rfl rfl (z := .agg #[.int .i64 0, .int .i64 0, .int .i64 0, .int .i64 0, .int .i64 0]) (cs := [.int .i64 0, .int .i64 0, .int .i64 0, .int .i64 0, .int .i64 0]) (by kernel_rfl) rfl HO ?_; clear HO; intro ga wa HO) | ((with_reducible refine gate_store 30 rfl ?_); first | (refine li_storeAgg 0 30 rfl rfl rfl rfl HO rfl rfl rfl rfl (by kernel_rfl) ?_; clear HO; intro ws HO; (try simp only [List.set_cons_zero, List.set_cons_succ] at HO)) | (refine li_storeAgg 1 30 rfl rfl rfl rfl HO rfl rfl rfl rfl (by kernel_rfl) ?_; clear HO; intro ws HO; (try simp only [List.set_cons_zero, List.set_cons_succ] at HO))) | (refine li_alloc (t := 51) rfl rfl (z := .agg #[.int .i64 0, .int .i64 0, .int .i64 0, .int .i64 0]) (cs := [.int .i64 0, .int .i64 0, .int .i64 0, .int .i64 0]) (by kernel_rfl) rfl HO ?_; clear HO; intro ga wa HO) | ((with_reducible refine gate_store 51 rfl ?_); first | (refine li_storeAgg 0 51 rfl rfl rfl rfl HO rfl rfl rfl rfl (by kernel_rfl) ?_; clear HO; intro ws HO; (try simp only [List.set_cons_zero, List.set_cons_succ] at HO)) | (refine li_storeAgg 1 51 rfl rfl rfl rfl HO rfl rfl rfl rfl (by kernel_rfl) ?_; clear HO; intro ws HO; (try simp only [List.set_cons_zero, List.set_cons_succ] at HO))) | (go_at_call 8; refine (alive_O HO).mono ?_; rintro e w1 ⟨rfl, HO1⟩; clear HO; have HO := HO1; clear HO1) | (go_at_call 9; refine (O_New_some _ _ _ HO H1.out).mono ?_; rintro e w1 ⟨gt, rfl, HO1⟩; clear HO; have HO := HO1; clear HO1) | (go_at_call 19; refine (NewFuse_no _ _ _ H2.out).mono ?_; rintro e w1 ⟨rfl, rfl⟩) | (go_at_call 10; refine (RNew_yes _ _ _ _ H1.out).mono ?_; rintro e w1 ⟨rfl, hb⟩; replace HO := HO.next hb; clear hb) | (go_at_call 20; refine (RNewFuse_no _ _ _ H2.out).mono ?_; rintro e w1 ⟨rfl, hb⟩; replace HO := HO.next hb; clear hb))
      go_ret
      exact ⟨ret_b (by simp), HO.below⟩
  · have H1 : Hid (Rt.ok n f m = false) := by simpa [Hid] using h1
    clear h1
    by_cases h2 : Rt.okf n f = true
    · have H2 := Lib.hid h2
      clear h2
      go_enter Try.func5, Try.ntmps5
      go_wp2_with (first | (refine li_alloc (t := 30) rfl rfl (z := .agg #[.int .i64 0, .int .i64 0, .int .i64 0, .int .i64 0, .int .i64 0]) (cs := [.int .i64 0, .int .i64 0, .int .i64 0, .int .i64 0, .int .i64 0]) (by kernel_rfl) rfl HO ?_; clear HO; intro ga wa HO) | ((with_reducible refine gate_store 30 rfl ?_); first | (refine li_storeAgg 0 30 rfl rfl rfl rfl HO rfl rfl rfl rfl (by kernel_rfl) ?_; clear HO; intro ws HO; (try simp only [List.set_cons_zero, List.set_cons_succ] at HO)) | (refine li_storeAgg 1 30 rfl rfl rfl rfl HO rfl rfl rfl rfl (by kernel_rfl) ?_; clear HO; intro ws HO; (try simp only [List.set_cons_zero, List.set_cons_succ] at HO))) | (refine li_alloc (t := 51) rfl rfl (z := .agg #[.int .i64 0, .int .i64 0, .int .i64 0, .int .i64 0]) (cs := [.int .i64 0, .int .i64 0, .int .i64 0, .int .i64 0]) (by kernel_rfl) rfl HO ?_; clear HO; intro ga wa HO) | ((with_reducible refine gate_store 51 rfl ?_); first | (refine li_storeAgg 0 51 rfl rfl rfl rfl HO rfl rfl rfl rfl (by kernel_rfl) ?_; clear HO; intro ws HO; (try simp only [List.set_cons_zero, List.set_cons_succ] at HO)) | (refine li_storeAgg 1 51 rfl rfl rfl rfl HO rfl rfl rfl rfl (by kernel_rfl) ?_; clear HO; intro ws HO; (try simp only [List.set_cons_zero, List.set_cons_succ] at HO))) | (go_at_call 8; refine (alive_O HO).mono ?_; rintro e w1 ⟨rfl, HO1⟩; clear HO; have HO := HO1; clear HO1) | (go_at_call 9; refine (New_no _ _ _ _ H1.out).mono ?_; rintro e w1 ⟨rfl, rfl⟩) | (go_at_call 19; refine (O_NewFuse_some _ _ HO H2.out).mono ?_; rintro e w1 ⟨gf, rfl, HO1⟩; clear HO; have HO := HO1; clear HO1) | (go_at_call 10; refine (RNew_no _ _ _ _ H1.out).mono ?_; rintro e w1 ⟨rfl, hb⟩; replace HO := HO.next hb; clear hb) | (go_at_call 20; refine (RNewFuse_yes _ _ _ H2.out).mono ?_; rintro e w1 ⟨rfl, hb⟩; replace HO := HO.next hb; clear hb))
      go_ret
      exact ⟨ret_b (by simp), HO.below⟩
    · have H2 : Hid (Rt.okf n f = false) := by simpa [Hid] using h2
      clear h2
      go_enter Try.func5, Try.ntmps5
      go_wp2_with (first | (refine li_alloc (t := 30) rfl rfl (z := .agg #[.int .i64 0, .int .i64 0, .int .i64 0, .int .i64 0, .int .i64 0]) (cs := [.int .i64 0, .int .i64 0, .int .i64 0, .int .i64 0, .int .i64 0]) (by kernel_rfl) rfl HO ?_; clear HO; intro ga wa HO) | ((with_reducible refine gate_store 30 rfl ?_); first | (refine li_storeAgg 0 30 rfl rfl rfl rfl HO rfl rfl rfl rfl (by kernel_rfl) ?_; clear HO; intro ws HO; (try simp only [List.set_cons_zero, List.set_cons_succ] at HO)) | (refine li_storeAgg 1 30 rfl rfl rfl rfl HO rfl rfl rfl rfl (by kernel_rfl) ?_; clear HO; intro ws HO; (try simp only [List.set_cons_zero, List.set_cons_succ] at HO))) | (refine li_alloc (t := 51) rfl rfl (z := .agg #[.int .i64 0, .int .i64 0, .int .i64 0, .int .i64 0]) (cs := [.int .i64 0, .int .i64 0, .int .i64 0, .int .i64 0]) (by kernel_rfl) rfl HO ?_; clear HO; intro ga wa HO) | ((with_reducible refine gate_store 51 rfl ?_); first | (refine li_storeAgg 0 51 rfl rfl rfl rfl HO rfl rfl rfl rfl (by kernel_rfl) ?_; clear HO; intro ws HO; (try simp only [List.set_cons_zero, List.set_cons_succ] at HO)) | (refine li_storeAgg 1 51 rfl rfl rfl rfl HO rfl rfl rfl rfl (by kernel_rfl) ?_; clear HO; intro ws HO; (try simp only [List.set_cons_zero, List.set_cons_succ] at HO))) | (go_at_call 8; refine (alive_O HO).mono ?_; rintro e w1 ⟨rfl, HO1⟩; clear HO; have HO := HO1; clear HO1) | (go_at_call 9; refine (New_no _ _ _ _ H1.out).mono ?_; rintro e w1 ⟨rfl, rfl⟩) | (go_at_call 19; refine (NewFuse_no _ _ _ H2.out).mono ?_; rintro e w1 ⟨rfl, rfl⟩) | (go_at_call 10; refine (RNew_no _ _ _ _ H1.out).mono ?_; rintro e w1 ⟨rfl, hb⟩; replace HO := HO.next hb; clear hb) | (go_at_call 20; refine (RNewFuse_no _ _ _ H2.out).mono ?_; rintro e w1 ⟨rfl, hb⟩; replace HO := HO.next hb; clear hb))
      go_ret
      exact ⟨ret_b (by simp), HO.below⟩
set_option maxHeartbeats 4000000 in
theorem RetryNil_any (now : Int) (b : Bool) (w : World) :
    Calls Try.prog 6 #[.int .i64 now, .bool b] w fun e w' => e = .returned (.bool true) ∧ Below w.heap.size w w' := by
  have HO := Own.nil w
  go_enter Try.func6, Try.ntmps6
  go_wp2_with (first | (go_at_call 8; refine (alive_O HO).mono ?_; rintro e w1 ⟨rfl, HO1⟩; clear HO; have HO := HO1; clear HO1) | (go_at_call 11; refine (Fail_nil _ _).mono ?_; rintro e w1 ⟨rfl, rfl⟩) | (go_at_call 13; refine (Good_nil _).mono ?_; rintro e w1 ⟨rfl, rfl⟩) | (go_at_call 21; refine (Tell_nil _ _ _).mono ?_; rintro e w1 ⟨rfl, rfl⟩) | (go_at_call 17; refine (Left_nil _).mono ?_; rintro e w1 ⟨rfl, rfl⟩) | (go_at_call 15; refine (Ready_nil _ _).mono ?_; rintro e w1 ⟨rfl, rfl⟩; replace HO := HO.drewN 1) | (go_at_call 22; refine (May_nil _ _).mono ?_; rintro e w1 ⟨rfl, rfl⟩; replace HO := HO.drewN 1))
  go_ret
  exact ⟨ret_b (by simp), HO.below⟩
end Go.Proofs.Ytmpoidkgjnkjcaa

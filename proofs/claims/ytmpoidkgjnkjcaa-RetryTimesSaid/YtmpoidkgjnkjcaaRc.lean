/- Contracts of the fuse (NewFuse, Tell, May) and of the reference's timer and fuse. -/
import Derived.Test.YtmpoidkgjnkjcaaRb
namespace Go.Proofs.Ytmpoidkgjnkjcaa
open Go.RowKit
theorem blk4 {w : World} {g t : Nat} {a b c d : Value} (h : Blk w g t #[a, b, c, d]) :
    w.cell? ⟨g, 0, none⟩ = some a ∧ w.cell? ⟨g, 1, none⟩ = some b ∧ w.cell? ⟨g, 2, none⟩ = some c ∧ w.cell? ⟨g, 3, none⟩ = some d :=
  ⟨h.cell 0, h.cell 1, h.cell 2, h.cell 3⟩
/-- A fuse, as values. -/
abbrev fus (b r k u : Int) : Array Value := #[.int .i64 b, .int .i64 r, .int .i64 k, .int .i64 u]
/-- May a fuse be? -/
def Rt.okf (n r : Int) : Bool := decide (1 ≤ n) && decide (n ≤ 1000) && Rt.rests r
theorem NewFuse_no (n r : Int) (w : World) (h : Rt.okf n r = false) :
    Calls Try.prog 19 #[.int .i64 n, .int .i64 r] w fun e w' => e = .returned (.tuple #[.pointer none, .int .i64 1]) ∧ w = w' := by
  by_cases h1 : n < 1
  · go_enter Try.func19, Try.ntmps19
    go_wp2_with (go_at_call 23; refine (rests_any _ _).mono ?_; rintro e w' ⟨rfl, rfl⟩)
    go_ret2
    exact ⟨rfl, rfl⟩
  · by_cases h2 : 1000 < n
    · go_enter Try.func19, Try.ntmps19
      go_wp2_with (go_at_call 23; refine (rests_any _ _).mono ?_; rintro e w' ⟨rfl, rfl⟩)
      go_ret2
      exact ⟨rfl, rfl⟩
    · have h3 : Rt.rests r = false := by
        unfold Rt.okf at h
        have e1 : decide (1 ≤ n) = true := by simp; omega
        have e2 : decide (n ≤ 1000) = true := by simp; omega
        rw [e1, e2] at h
        simpa using h
      go_enter Try.func19, Try.ntmps19
      go_wp2_with (go_at_call 23; refine (rests_any _ _).mono ?_; rintro e w' ⟨rfl, rfl⟩)
      go_ret2
      exact ⟨rfl, rfl⟩
theorem NewFuse_yes (n r : Int) (w : World) (h : Rt.okf n r = true) :
    Calls Try.prog 19 #[.int .i64 n, .int .i64 r] w fun e w' => e = .returned (.tuple #[.pointer (some ⟨w.heap.size, 0, none⟩), .int .i64 0]) ∧
      Blk w' w.heap.size 65 (fus n r 0 0) ∧ Below w.heap.size w w' := by
  unfold Rt.okf at h
  simp only [Bool.and_eq_true, decide_eq_true_eq] at h
  obtain ⟨⟨h1, h2⟩, h3⟩ := h
  go_enter Try.func19, Try.ntmps19
  go_wp2_with (go_at_call 23; refine (rests_any _ _).mono ?_; rintro e w' ⟨rfl, rfl⟩)
  go_ret2
  refine ⟨rfl, ?_, ?_⟩
  · with_reducible exact Blk.new _ _ _
  · exact (Below.refl _ _).alloc (Nat.le_refl _) _
theorem Tell_nil (now : Int) (b : Bool) (w : World) : Calls Try.prog 21 #[.pointer none, .int .i64 now, .bool b] w fun e w' => e = .returned (.tuple #[]) ∧ w = w' := by
  go_enter Try.func21, Try.ntmps21
  go_wp2
  go_end0
  exact ⟨rfl, rfl⟩
theorem May_nil (now : Int) (w : World) : Calls Try.prog 22 #[.pointer none, .int .i64 now] w fun e w' => e = .returned (.bool false) ∧ w' = w.drewN 1 := by
  go_enter Try.func22, Try.ntmps22
  go_wp2_with fail
  go_region
  all_goals
    go_wp2
    go_ret
    exact ⟨rfl, rfl⟩
theorem May_any (g : Nat) (b r k u now : Int) (w : World) (hb : Blk w g 65 (fus b r k u)) :
    Calls Try.prog 22 #[.pointer (some ⟨g, 0, none⟩), .int .i64 now] w fun e w' => e = .returned (.bool (decide (u ≤ Rt.held now))) ∧ ∃ n, w' = w.drewN n := by
  obtain ⟨c0, c1, c2, c3⟩ := blk4 hb
  clear hb
  go_enter Try.func22, Try.ntmps22
  go_wp2_with fail
  go_quiet ((go_at_call 24; exact quiet_eq (held_any _ _)))
  go_wp2
  go_ret
  exact ⟨ret_b (by simp), _, rfl⟩
set_option maxHeartbeats 1000000 in
theorem Tell_whole (g : Nat) (b r k u now : Int) (w : World) (hb : Blk w g 65 (fus b r k u)) :
    Calls Try.prog 21 #[.pointer (some ⟨g, 0, none⟩), .int .i64 now, .bool true] w fun e w' => e = .returned (.tuple #[]) ∧ Blk w' g 65 (fus b r 0 0) ∧ w.grownBy w' (some g) := by
  obtain ⟨c0, c1, c2, c3⟩ := blk4 hb
  have z2 := hb.frozen 2
  have z3 := hb.frozen 3
  have HB := Lib.hid hb
  clear hb
  go_enter Try.func21, Try.ntmps21
  go_wp2
  go_end0
  refine ⟨rfl, ?_, ?_⟩
  · have h := (HB.out.set_ 2 (.int .i64 0)).set_ 3 (.int .i64 0)
    exact h
  · exact only_set (only_set (World.grownBy.refl _ _) 2 _) 3 _
set_option maxHeartbeats 2000000 in
theorem Tell_fails (g : Nat) (b r k u now : Int) (w : World) (hb : Blk w g 65 (fus b r k u)) (h0 : 0 ≤ k) (h1 : k < 1000) (h2 : 1 ≤ r) (h3 : r ≤ 1099511627776) :
    Calls Try.prog 21 #[.pointer (some ⟨g, 0, none⟩), .int .i64 now, .bool false] w fun e w' => e = .returned (.tuple #[]) ∧ Blk w' g 65 (fus b r (k + 1) (if b ≤ k + 1 then Rt.held now + r else u)) ∧ w.grownBy w' (some g) := by
  obtain ⟨c0, c1, c2, c3⟩ := blk4 hb
  have z2 := hb.frozen 2
  have z3 := hb.frozen 3
  obtain ⟨b1, b2⟩ := Rt.held_bd now
  have HB := Lib.hid hb
  clear hb
  by_cases hlt : b ≤ k + 1
  · have e1 : (if b ≤ k + 1 then Rt.held now + r else u) = Rt.held now + r := if_pos hlt
    have H := Lib.hid e1
    clear e1
    go_enter Try.func21, Try.ntmps21
    go_wp2
    go_quiet (fail)
    go_wp2_with fail
    go_region_with (first | (go_at_call 24; refine (held_any _ _).mono ?_; rintro e w' ⟨rfl, rfl⟩))
    all_goals
      go_wp2
      go_end0
      refine ⟨rfl, ?_, ?_⟩
      · have h := ((HB.out.set_ 2 (.int .i64 (k + 1))).drewN (nq + 1)).set_ 3 (.int .i64 (Rt.held now + r))
        first
          | with_reducible exact h
          | (rw [IntWalk.i64_in (Rt.held now + r) (by omega)]; exact h)
      · exact only_set (only_drewN (only_set (World.grownBy.refl _ _) 2 _) (nq + 1)) 3 _
  · have e1 : (if b ≤ k + 1 then Rt.held now + r else u) = u := if_neg hlt
    have H := Lib.hid e1
    clear e1
    go_enter Try.func21, Try.ntmps21
    go_wp2
    go_quiet (fail)
    go_wp2
    go_end0
    refine ⟨rfl, ?_, ?_⟩
    · have h := ((HB.out.set_ 2 (.int .i64 (k + 1))).drewN nq)
      exact h
    · exact only_drewN (only_set (World.grownBy.refl _ _) 2 _) nq
/-- A value of the reference's timer. -/
abbrev rtim (b f m r nx : Int) : Value := .agg #[.int .i64 b, .int .i64 f, .int .i64 m, .int .i64 r, .int .i64 nx]
def Rt.rok (n f m : Int) : Bool := decide (0 ≤ n) && decide (n ≤ 1000) && decide (1 ≤ f) && decide (f ≤ 1099511627776) && decide (f ≤ m) && decide (m ≤ 1099511627776)
theorem rok_eq (n f m : Int) : Rt.rok n f m = Rt.ok n f m := by
  unfold Rt.rok Rt.ok Rt.rests
  rw [Bool.eq_iff_iff]; simp; omega
set_option maxHeartbeats 4000000 in
theorem RNew_any (n f m : Int) (w : World) :
    Calls Try.prog 10 #[.int .i64 n, .int .i64 f, .int .i64 m] w fun e w' => e = .returned (.tuple #[if Rt.ok n f m = true then rtim n f m 0 0 else rtim 0 0 0 0 0, .int .i64 (if Rt.ok n f m = true then 0 else 1)]) ∧ Below w.heap.size w w' := by
  rw [← rok_eq]
  by_cases h : Rt.rok n f m = true
  · rw [if_pos h, if_pos h]
    unfold Rt.rok at h
    simp only [Bool.and_eq_true, decide_eq_true_eq] at h
    obtain ⟨⟨⟨⟨⟨h1, h2⟩, h3⟩, h4⟩, h5⟩, h6⟩ := h
    go_enter Try.func10, Try.ntmps10
    go_wp2
    refine bodyPost_ret (v := .tuple #[rtim n f m 0 0, .int .i64 0]) (by simp [results, Try.results10, go_sem]) rfl ⟨rfl, ?_⟩
    repeat (first | (with_reducible exact Below.refl _ _) | (with_reducible refine below_dn ?_ _) | (with_reducible refine Below.drew ?_) | ((with_reducible apply Below.alloc); rotate_left; (focus (simp; done))) | ((with_reducible apply Below.setCell); rotate_left; (focus (simp; done))))
  · rw [if_neg h, if_neg h]
    have hor : n < 0 ∨ (0 ≤ n ∧ 1000 < n) ∨ (0 ≤ n ∧ n ≤ 1000 ∧ f < 1) ∨ (0 ≤ n ∧ n ≤ 1000 ∧ 1 ≤ f ∧ 1099511627776 < f) ∨ (0 ≤ n ∧ n ≤ 1000 ∧ 1 ≤ f ∧ f ≤ 1099511627776 ∧ m < f) ∨ (0 ≤ n ∧ n ≤ 1000 ∧ 1 ≤ f ∧ f ≤ 1099511627776 ∧ f ≤ m ∧ 1099511627776 < m) := by
      unfold Rt.rok at h
      simp at h
      omega
    clear h
    rcases hor with h1 | ⟨h1, h2⟩ | ⟨h1, h2, h3⟩ | ⟨h1, h2, h3, h4⟩ | ⟨h1, h2, h3, h4, h5⟩ | ⟨h1, h2, h3, h4, h5, h6⟩
    all_goals
      go_enter Try.func10, Try.ntmps10
      go_wp2
      refine bodyPost_ret (v := .tuple #[rtim 0 0 0 0 0, .int .i64 1]) (by simp [results, Try.results10, go_sem]) rfl ⟨rfl, ?_⟩
      repeat (first | (with_reducible exact Below.refl _ _) | (with_reducible refine below_dn ?_ _) | (with_reducible refine Below.drew ?_) | ((with_reducible apply Below.alloc); rotate_left; (focus (simp; done))) | ((with_reducible apply Below.setCell); rotate_left; (focus (simp; done))))
theorem Over_any (b f m r nx : Int) (w : World) :
    Calls Try.prog 26 #[rtim b f m r nx] w fun e w' => e = .returned (.bool (decide (b < r))) ∧ Below w.heap.size w w' := by
  go_enter Try.func26, Try.ntmps26
  go_wp2
  go_ret
  exact ⟨rfl, by repeat (first | (with_reducible assumption) | (with_reducible exact Below.refl _ _) | ((with_reducible apply bl_next); rotate_left; (with_reducible assumption)) | (with_reducible refine below_dn ?_ _) | (with_reducible refine Below.drew ?_) | ((with_reducible apply Below.alloc); rotate_left; (focus (first | omega | (simp; done) | (simp; omega)))) | ((with_reducible apply Below.setCell); rotate_left; (focus (first | omega | (simp; done) | (simp; omega)))))⟩
theorem RLeft_any (b f m r nx : Int) (w : World) (h0 : 0 ≤ r) (h1 : r ≤ 1001) (h2 : 0 ≤ b) (h3 : b ≤ 1000) :
    Calls Try.prog 18 #[rtim b f m r nx] w fun e w' => e = .returned (.int .i64 (max (b - r) 0)) ∧ Below w.heap.size w w' := by
  go_enter Try.func18, Try.ntmps18
  go_wp2
  all_goals
    go_ret
    exact ⟨ret_i (by omega), by repeat (first | (with_reducible assumption) | (with_reducible exact Below.refl _ _) | ((with_reducible apply bl_next); rotate_left; (with_reducible assumption)) | (with_reducible refine below_dn ?_ _) | (with_reducible refine Below.drew ?_) | ((with_reducible apply Below.alloc); rotate_left; (focus (first | omega | (simp; done) | (simp; omega)))) | ((with_reducible apply Below.setCell); rotate_left; (focus (first | omega | (simp; done) | (simp; omega)))))⟩
theorem RGood_any (b f m r nx : Int) (w : World) :
    Calls Try.prog 14 #[rtim b f m r nx] w fun e w' => e = .returned (rtim b f m 0 0) ∧ Below w.heap.size w w' := by
  go_enter Try.func14, Try.ntmps14
  go_wp2
  refine bodyPost_ret (v := rtim b f m 0 0) (by simp [results, Try.results14, go_sem]) rfl ⟨rfl, ?_⟩
  repeat (first | (with_reducible assumption) | (with_reducible exact Below.refl _ _) | ((with_reducible apply bl_next); rotate_left; (with_reducible assumption)) | (with_reducible refine below_dn ?_ _) | (with_reducible refine Below.drew ?_) | ((with_reducible apply Below.alloc); rotate_left; (focus (first | omega | (simp; done) | (simp; omega)))) | ((with_reducible apply Below.setCell); rotate_left; (focus (first | omega | (simp; done) | (simp; omega)))))
set_option maxHeartbeats 1000000 in
theorem RRest_any (b f m r nx k : Int) (w : World) (h1 : 1 ≤ f) (h2 : f ≤ m) (h3 : m ≤ 1099511627776) (h4 : 1 ≤ k) (h5 : k ≤ 1001) :
    Calls Try.prog 28 #[rtim b f m r nx, .int .i64 k] w fun e w' => e = .returned (.int .i64 (Rt.dbl f m (k.toNat - 1))) ∧ Below w.heap.size w w' := by
  go_enter Try.func28, Try.ntmps28
  go_wp2
  go_loop [5, 6] (fun v i => ∃ (j : Nat) (x : Int), (j : Int) + 1 ≤ k ∧ i = .int .i64 ((j : Int) + 1) ∧ v = .int .i64 x ∧ 1 ≤ x ∧ x ≤ 2 * m ∧ min x m = Rt.dbl f m j) (fun _ i => k.toNat - (intOf i).toNat)
  case atStart => exact ⟨0, f, by omega, rfl, rfl, h1, by omega, by rw [Rt.dbl]; omega⟩
  case round =>
    obtain ⟨j, x, hj, rfl, rfl, hx1, hx2, hx3⟩ := hrel
    have HX := Lib.hid hx3
    clear hx3
    by_cases hlt : (j : Int) + 1 < k
    · by_cases hxm : x < m
      · go_wp2
        go_round
        case rel => exact ⟨j + 1, 2 * x, by omega, by go_num, by go_num, by omega, by omega, by have := HX.out; rw [Rt.dbl]; omega⟩
        case measure => first | (simp [intOf]; done) | (simp [intOf]; omega)
      · have e1 : Rt.dbl f m (k.toNat - 1) = m := Rt.dbl_top f m h1 h2 j (by have := HX.out; omega) _ (by omega)
        have H := Lib.hid e1
        clear e1
        have hd : decide (x < m) = false := by simp; omega
        go_wp2
        all_goals
          go_ret
          exact ⟨ret_i (by rw [H.out]; try omega), by repeat (first | (with_reducible assumption) | (with_reducible exact Below.refl _ _) | ((with_reducible apply bl_next); rotate_left; (with_reducible assumption)) | (with_reducible refine below_dn ?_ _) | (with_reducible refine Below.drew ?_) | ((with_reducible apply Below.alloc); rotate_left; (focus (first | omega | (simp; done) | (simp; omega)))) | ((with_reducible apply Below.setCell); rotate_left; (focus (first | omega | (simp; done) | (simp; omega)))))⟩
    · have e1 : j = k.toNat - 1 := by omega
      have H := Lib.hid e1
      clear e1
      have hd : decide ((j : Int) + 1 < k) = false := by simp; omega
      go_wp2
      all_goals
        go_ret
        exact ⟨ret_i (by rw [← H.out, ← HX.out]; omega), by repeat (first | (with_reducible assumption) | (with_reducible exact Below.refl _ _) | ((with_reducible apply bl_next); rotate_left; (with_reducible assumption)) | (with_reducible refine below_dn ?_ _) | (with_reducible refine Below.drew ?_) | ((with_reducible apply Below.alloc); rotate_left; (focus (first | omega | (simp; done) | (simp; omega)))) | ((with_reducible apply Below.setCell); rotate_left; (focus (first | omega | (simp; done) | (simp; omega)))))⟩
end Go.Proofs.Ytmpoidkgjnkjcaa

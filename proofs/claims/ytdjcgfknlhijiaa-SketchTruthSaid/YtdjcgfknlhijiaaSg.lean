/- A new sketch: which there may be, what it owns. -/
import Derived.Test.YtdjcgfknlhijiaaSf
namespace Go.Proofs.Ytdjcgfknlhijiaa
set_option linter.unusedVariables false
set_option linter.unusedSimpArgs false
set_option linter.unnecessarySimpa false
open Go.RowKit Go.Proofs.YtdjcgfknlhijiaaW.PrintLast
theorem el33 : Elem Try.prog 33 3 1 8 (.int .i64 0) := elem_mk (by kernel_rfl) (by kernel_rfl) rfl (by decide)
theorem el48 : Elem Try.prog 48 33 1 24 (.slice none 0 0) := elem_mk (by kernel_rfl) (by kernel_rfl) rfl (by decide)
namespace Sk
def right (rows width after : Int) : Bool := decide (1 ≤ rows) && decide (rows ≤ 8) && decide (1 ≤ width) && decide (width ≤ 65536) && decide (1 ≤ after) && decide (after ≤ 1099511627776)
def zeros (wd : Nat) : List Int := List.replicate wd 0
def Zero (wd : Nat) (R : List Row) : Prop := ∀ p ∈ R, p.2 = zeros wd
end Sk
theorem Right_any (r wd af : Int) (w : World) :
    Calls Try.prog 12 #[.int .i64 r, .int .i64 wd, .int .i64 af] w fun e w' => e = .returned (.bool (Sk.right r wd af)) ∧ w = w' := by
  go_enter Try.func12, Try.ntmps12
  go_wp2
  all_goals
    go_ret
    exact ⟨ret_b (by unfold Sk.right; simp; try omega), rfl⟩
theorem SNew_no (r wd af : Int) (w : World) (h : Sk.right r wd af = false) :
    Calls Try.prog 11 #[.int .i64 r, .int .i64 wd, .int .i64 af] w fun e w' => e = .returned (.tuple #[.pointer none, .int .i64 1]) ∧ w = w' := by
  unfold Sk.right at h
  simp at h
  have H := Lib.hid h
  clear h
  go_enter Try.func11, Try.ntmps11
  go_wp2
  all_goals first | (exfalso; have := H.out; omega) | (go_ret2; exact ⟨rfl, rfl⟩)
set_option maxRecDepth 20000 in
set_option maxHeartbeats 4000000 in
theorem SNew_yes {w0 w : World} {L : List Ent} (rows : Nat) (wd : Nat) (af : Int) (HO : Own w0 w L) (r1 : 1 ≤ rows) (r2 : rows ≤ 8) (w1 : 1 ≤ wd) (w2 : wd ≤ 65536) (f1 : 1 ≤ af) (f2 : af ≤ 1099511627776) :
    Calls Try.prog 11 #[.int .i64 (rows : Int), .int .i64 (wd : Int), .int .i64 af] w fun e w' => ∃ g gr cap R, e = .returned (.tuple #[.pointer (some ⟨g, 0, none⟩), .int .i64 0]) ∧ Own w0 w' (SkE g gr cap af 0 R ++ L) ∧ R.length = rows ∧ Sk.Zero wd R := by
  have hg1 : decide ((rows : Int) < 1) = false := decide_eq_false (by omega)
  have hg2 : decide ((8 : Int) < (rows : Int)) = false := decide_eq_false (by omega)
  have hg3 : decide ((wd : Int) < 1) = false := decide_eq_false (by omega)
  have hg4 : decide ((65536 : Int) < (wd : Int)) = false := decide_eq_false (by omega)
  go_enter Try.func11, Try.ntmps11
  go_wp2_with (first | (refine li_boxAgg 50 rfl rfl rfl HO ?_; clear HO; intro gb wb HO) | ((with_reducible refine gate_load 48 rfl ?_); first | (refine li_load 0 48 rfl rfl rfl HO rfl rfl (by kernel_rfl) ?_)) | ((with_reducible refine gate_store 48 rfl ?_); first | (refine li_storeSlice 0 48 rfl rfl rfl rfl HO rfl rfl (by simp) (by kernel_rfl) ?_; clear HO; intro ws HO; (try simp only [List.set_cons_zero, List.set_cons_succ] at HO))))
  go_loopg [35] rows (fun k v wr => ∃ j : Nat, v = .int .i64 (j : Int) ∧ j ≤ rows ∧ k = rows - j ∧
    ((j = 0 ∧ Own w0 wr ((gb, CellsP 50 [.slice none 0 0, .int .i64 af, .int .i64 0]) :: L)) ∨ (1 ≤ j ∧ ∃ gr cap R, R.length = j ∧ Sk.Zero wd R ∧ Own w0 wr (SkE gb gr cap af 0 R ++ L))))
  case atStart => exact ⟨0, rfl, by omega, by omega, .inl ⟨rfl, HO⟩⟩
  case round =>
    clear HO
    obtain ⟨j, rfl, j1, hk, hrel⟩ := hrel
    have hw1 : IntKind.i64.wrap ((j : Int) + 1) = ((j + 1 : Nat) : Int) := by rw [IntWalk.i64_in _ (by omega)]; rfl
    rcases hrel with ⟨rfl, HO⟩ | ⟨hj1, gr, cap, R, hR, hz, HO⟩
    · have hd : decide (((0 : Nat) : Int) < (rows : Int)) = true := decide_eq_true (by omega)
      go_wp2_with (fail)
      refine start_ (n := 12) (S := fun w' => w'.cell? ⟨gb, 0, none⟩ = some (.slice none 0 0)) (ds := [11]) #[false, false, false, false, false, false, false, false, false, false, false, false] (by kernel_rfl) rfl rfl ((by first | exact HO.drew.cell 0 rfl _ rfl | exact HO.drew.cell 1 rfl _ rfl | exact HO.drew.cell 2 rfl _ rfl | exact HO.drew.cell 3 rfl _ rfl)) (fun hHeld => ?_)
      replace HO := HO.drew
      refine pure_ (i := 0) (N := some 37) (v := ?_) (a' := ?_) #[true, false, false, false, false, false, false, false, false, false, false, false] rfl rfl (by kernel_rfl) (fun _ _ _ h => h) (Or.inl ⟨by rfl, ?_⟩) ?_ ?_
      rotate_left
      · intro w'
        go_simp
        with_reducible rfl
      rotate_left
      · simp only [Act.put, List.setIfInBounds_toArray, List.set_cons_zero, List.set_cons_succ, i64_w, i32_w]
        rfl
      refine pure_ (i := 1) (N := some 38) (v := ?_) (a' := ?_) #[true, true, false, false, false, false, false, false, false, false, false, false] rfl rfl (by kernel_rfl) (fun _ _ _ h => h) (Or.inl ⟨by rfl, ?_⟩) ?_ ?_
      rotate_left
      · intro w'
        go_simp
        with_reducible rfl
      rotate_left
      · simp only [Act.put, List.setIfInBounds_toArray, List.set_cons_zero, List.set_cons_succ, i64_w, i32_w]
        rfl
      refine pure_ (i := 2) (N := some 39) (v := ?_) (a' := ?_) #[true, true, true, false, false, false, false, false, false, false, false, false] rfl rfl (by kernel_rfl) (fun _ _ _ h => h) (Or.inl ⟨by rfl, ?_⟩) ?_ ?_
      rotate_left
      · intro w'
        go_simp
        with_reducible rfl
      rotate_left
      · simp only [Act.put, List.setIfInBounds_toArray, List.set_cons_zero, List.set_cons_succ, i64_w, i32_w]
        rfl
      refine pure_ (i := 3) (N := some 40) (v := ?_) (a' := ?_) #[true, true, true, true, false, false, false, false, false, false, false, false] rfl rfl (by kernel_rfl) (fun _ _ _ h => h) (Or.inl ⟨by rfl, ?_⟩) ?_ ?_
      rotate_left
      · intro w'
        go_simp
        with_reducible rfl
      rotate_left
      · simp only [Act.put, List.setIfInBounds_toArray, List.set_cons_zero, List.set_cons_succ, i64_w, i32_w]
        rfl
      refine pure_ (i := 5) (N := some 42) (v := ?_) (a' := ?_) #[true, true, true, true, false, true, false, false, false, false, false, false] rfl rfl (by kernel_rfl) (fun _ _ _ h => h) (Or.inl ⟨by rfl, ?_⟩) ?_ ?_
      rotate_left
      · intro w'
        go_simp
        with_reducible rfl
      rotate_left
      · simp only [Act.put, List.setIfInBounds_toArray, List.set_cons_zero, List.set_cons_succ, i64_w, i32_w]
        rfl
      refine take_ (i := 4) (N := some 41) (v := ?_) (a' := ?_) #[true, true, true, true, true, true, false, false, false, false, false, false] rfl rfl (by kernel_rfl) (fun _ _ _ h => h) (Or.inl ⟨by rfl, ?_⟩) hHeld ?_ ?_
      rotate_left
      · intro w' s0
        go_simp
        with_reducible rfl
      rotate_left
      · simp only [Act.put, List.setIfInBounds_toArray, List.set_cons_zero, List.set_cons_succ, i64_w, i32_w]
        rfl
      refine one_ (i := 6) (N := some 43) #[true, true, true, true, true, true, true, false, false, false, false, false] rfl rfl (by kernel_rfl) (by decide) (fun K hK => ?_)
      refine st_make el33 rfl rfl rfl rfl (by omega) (by simp only [maxLen]; omega) rfl HO ?_
      clear HO
      intro gm wm HO
      refine hK.out _ _ ((by first | exact HO.cell 0 rfl _ rfl | exact HO.cell 1 rfl _ rfl | exact HO.cell 2 rfl _ rfl | exact HO.cell 3 rfl _ rfl)) (fun hHeld => ?_)
      clear hK K
      refine norm_ (a' := ?_) ?_ ?_
      rotate_left
      · show Act.put _ (some 43) _ = _
        simp only [Act.put, List.setIfInBounds_toArray, List.set_cons_zero, List.set_cons_succ, i64_w, i32_w]
        rfl
      refine one_ (i := 7) (N := some 44) #[true, true, true, true, true, true, true, true, false, false, false, false] rfl rfl (by kernel_rfl) (by decide) (fun K hK => ?_)
      refine st_bslice 48 1 rfl rfl (by go_simp; rfl) rfl (by decide) HO ?_
      clear HO
      intro gn wn HO
      refine hK.out _ _ ((by first | exact HO.cell 0 rfl _ rfl | exact HO.cell 1 rfl _ rfl | exact HO.cell 2 rfl _ rfl | exact HO.cell 3 rfl _ rfl)) (fun hHeld => ?_)
      clear hK K
      refine norm_ (a' := ?_) ?_ ?_
      rotate_left
      · show Act.put _ (some 44) _ = _
        simp only [Act.put, List.setIfInBounds_toArray, List.set_cons_zero, List.set_cons_succ, i64_w, i32_w]
        rfl
      refine one_ (i := 8) (N := some 45) #[true, true, true, true, true, true, true, true, true, false, false, false] rfl rfl (by kernel_rfl) (by decide) (fun K hK => ?_)
      refine st_append_nil1 el48 rfl rfl rfl HO rfl rfl rfl (by decide) (by decide) (by decide) ?_
      clear HO
      intro gr cap wa hcap HO
      refine hK.out _ _ ((by first | exact HO.cell 0 rfl _ rfl | exact HO.cell 1 rfl _ rfl | exact HO.cell 2 rfl _ rfl | exact HO.cell 3 rfl _ rfl)) (fun hHeld => ?_)
      clear hK K
      refine norm_ (a' := ?_) ?_ ?_
      rotate_left
      · show Act.put _ (some 45) _ = _
        simp only [Act.put, List.setIfInBounds_toArray, List.set_cons_zero, List.set_cons_succ, i64_w, i32_w]
        rfl
      refine pure_ (i := 9) (N := some 46) (v := ?_) (a' := ?_) #[true, true, true, true, true, true, true, true, true, true, false, false] rfl rfl (by kernel_rfl) (fun _ _ _ h => h) (Or.inl ⟨by rfl, ?_⟩) ?_ ?_
      rotate_left
      · intro w'
        go_simp
        with_reducible rfl
      rotate_left
      · simp only [Act.put, List.setIfInBounds_toArray, List.set_cons_zero, List.set_cons_succ, i64_w, i32_w]
        rfl
      refine pure_ (i := 10) (N := some 47) (v := ?_) (a' := ?_) #[true, true, true, true, true, true, true, true, true, true, true, false] rfl rfl (by kernel_rfl) (fun _ _ _ h => h) (Or.inl ⟨by rfl, ?_⟩) ?_ ?_
      rotate_left
      · intro w'
        go_simp
        with_reducible rfl
      rotate_left
      · simp only [Act.put, List.setIfInBounds_toArray, List.set_cons_zero, List.set_cons_succ, i64_w, i32_w]
        rfl
      refine last_ (i := 11) (N := none) #[true, true, true, true, true, true, true, true, true, true, true, true] rfl rfl (by kernel_rfl) (by decide) (fun K hK => ?_)
      first | refine st_storeSlice 0 48 rfl rfl rfl rfl HO rfl rfl (by simp) (by kernel_rfl) ?_ | refine st_storeSlice 1 48 rfl rfl rfl rfl HO rfl rfl (by simp) (by kernel_rfl) ?_ | refine st_storeSlice 2 48 rfl rfl rfl rfl HO rfl rfl (by simp) (by kernel_rfl) ?_ | refine st_storeSlice 3 48 rfl rfl rfl rfl HO rfl rfl (by simp) (by kernel_rfl) ?_
      clear HO
      intro ws HO
      try simp only [List.set_cons_zero, List.set_cons_succ] at HO
      refine hK.out _ _ ?_
      clear hK K
      refine done_ (by kernel_rfl) ?_
      go_wp2_with (fail)
      go_roundg (rows - 1)
      case measure => omega
      case rel =>
        have HO2 := HO.front 2 rfl
        exact ⟨1, rfl, by omega, rfl, .inr ⟨by omega, gr, cap, [(gm, Sk.zeros wd)], rfl, by simp [Sk.Zero], by simpa [SkE, rowV, rowE, cells64, Sk.zeros] using HO2⟩⟩
    · rcases Nat.lt_or_ge j rows with hj | hj
      · have hd : decide ((j : Int) < (rows : Int)) = true := decide_eq_true (by omega)
        have hlx : (R.map rowV).length = j * 1 := by simp [hR]
        unfold SkE at HO
        simp only [List.cons_append] at HO
        go_wp2_with (fail)
        refine start_ (n := 12) (S := fun w' => w'.cell? ⟨gb, 0, none⟩ = some (.slice (some ⟨gr, 0, none⟩) R.length cap)) (ds := [11]) #[false, false, false, false, false, false, false, false, false, false, false, false] (by kernel_rfl) rfl rfl ((by first | exact HO.drew.cell 0 rfl _ rfl | exact HO.drew.cell 1 rfl _ rfl | exact HO.drew.cell 2 rfl _ rfl | exact HO.drew.cell 3 rfl _ rfl)) (fun hHeld => ?_)
        replace HO := HO.drew
        refine pure_ (i := 0) (N := some 37) (v := ?_) (a' := ?_) #[true, false, false, false, false, false, false, false, false, false, false, false] rfl rfl (by kernel_rfl) (fun _ _ _ h => h) (Or.inl ⟨by rfl, ?_⟩) ?_ ?_
        rotate_left
        · intro w'
          go_simp
          with_reducible rfl
        rotate_left
        · simp only [Act.put, List.setIfInBounds_toArray, List.set_cons_zero, List.set_cons_succ, i64_w, i32_w]
          rfl
        refine pure_ (i := 1) (N := some 38) (v := ?_) (a' := ?_) #[true, true, false, false, false, false, false, false, false, false, false, false] rfl rfl (by kernel_rfl) (fun _ _ _ h => h) (Or.inl ⟨by rfl, ?_⟩) ?_ ?_
        rotate_left
        · intro w'
          go_simp
          with_reducible rfl
        rotate_left
        · simp only [Act.put, List.setIfInBounds_toArray, List.set_cons_zero, List.set_cons_succ, i64_w, i32_w]
          rfl
        refine pure_ (i := 2) (N := some 39) (v := ?_) (a' := ?_) #[true, true, true, false, false, false, false, false, false, false, false, false] rfl rfl (by kernel_rfl) (fun _ _ _ h => h) (Or.inl ⟨by rfl, ?_⟩) ?_ ?_
        rotate_left
        · intro w'
          go_simp
          with_reducible rfl
        rotate_left
        · simp only [Act.put, List.setIfInBounds_toArray, List.set_cons_zero, List.set_cons_succ, i64_w, i32_w]
          rfl
        refine pure_ (i := 3) (N := some 40) (v := ?_) (a' := ?_) #[true, true, true, true, false, false, false, false, false, false, false, false] rfl rfl (by kernel_rfl) (fun _ _ _ h => h) (Or.inl ⟨by rfl, ?_⟩) ?_ ?_
        rotate_left
        · intro w'
          go_simp
          with_reducible rfl
        rotate_left
        · simp only [Act.put, List.setIfInBounds_toArray, List.set_cons_zero, List.set_cons_succ, i64_w, i32_w]
          rfl
        refine pure_ (i := 5) (N := some 42) (v := ?_) (a' := ?_) #[true, true, true, true, false, true, false, false, false, false, false, false] rfl rfl (by kernel_rfl) (fun _ _ _ h => h) (Or.inl ⟨by rfl, ?_⟩) ?_ ?_
        rotate_left
        · intro w'
          go_simp
          with_reducible rfl
        rotate_left
        · simp only [Act.put, List.setIfInBounds_toArray, List.set_cons_zero, List.set_cons_succ, i64_w, i32_w]
          rfl
        refine take_ (i := 4) (N := some 41) (v := ?_) (a' := ?_) #[true, true, true, true, true, true, false, false, false, false, false, false] rfl rfl (by kernel_rfl) (fun _ _ _ h => h) (Or.inl ⟨by rfl, ?_⟩) hHeld ?_ ?_
        rotate_left
        · intro w' s0
          go_simp
          with_reducible rfl
        rotate_left
        · simp only [Act.put, List.setIfInBounds_toArray, List.set_cons_zero, List.set_cons_succ, i64_w, i32_w]
          rfl
        refine one_ (i := 6) (N := some 43) #[true, true, true, true, true, true, true, false, false, false, false, false] rfl rfl (by kernel_rfl) (by decide) (fun K hK => ?_)
        refine st_make el33 rfl rfl rfl rfl (by omega) (by simp only [maxLen]; omega) rfl HO ?_
        clear HO
        intro gm wm HO
        refine hK.out _ _ ((by first | exact HO.cell 0 rfl _ rfl | exact HO.cell 1 rfl _ rfl | exact HO.cell 2 rfl _ rfl | exact HO.cell 3 rfl _ rfl)) (fun hHeld => ?_)
        clear hK K
        refine norm_ (a' := ?_) ?_ ?_
        rotate_left
        · show Act.put _ (some 43) _ = _
          simp only [Act.put, List.setIfInBounds_toArray, List.set_cons_zero, List.set_cons_succ, i64_w, i32_w]
          rfl
        refine one_ (i := 7) (N := some 44) #[true, true, true, true, true, true, true, true, false, false, false, false] rfl rfl (by kernel_rfl) (by decide) (fun K hK => ?_)
        refine st_bslice 48 1 rfl rfl (by go_simp; rfl) rfl (by decide) HO ?_
        clear HO
        intro gn wn HO
        refine hK.out _ _ ((by first | exact HO.cell 0 rfl _ rfl | exact HO.cell 1 rfl _ rfl | exact HO.cell 2 rfl _ rfl | exact HO.cell 3 rfl _ rfl)) (fun hHeld => ?_)
        clear hK K
        refine norm_ (a' := ?_) ?_ ?_
        rotate_left
        · show Act.put _ (some 44) _ = _
          simp only [Act.put, List.setIfInBounds_toArray, List.set_cons_zero, List.set_cons_succ, i64_w, i32_w]
          rfl
        refine one_ (i := 8) (N := some 45) #[true, true, true, true, true, true, true, true, true, false, false, false] rfl rfl (by kernel_rfl) (by decide) (fun K hK => ?_)
        refine st_append_row1 2 el48 rfl rfl rfl HO rfl hlx rfl rfl rfl (by decide) (by simp only [maxLen]; omega) (by omega) ?_
        clear HO
        intro gr2 cap2 wa hcap2 HO
        simp only [List.eraseIdx_cons_succ, List.eraseIdx_cons_zero] at HO
        refine hK.out _ _ ((by first | exact HO.cell 0 rfl _ rfl | exact HO.cell 1 rfl _ rfl | exact HO.cell 2 rfl _ rfl | exact HO.cell 3 rfl _ rfl)) (fun hHeld => ?_)
        clear hK K
        refine norm_ (a' := ?_) ?_ ?_
        rotate_left
        · show Act.put _ (some 45) _ = _
          simp only [Act.put, List.setIfInBounds_toArray, List.set_cons_zero, List.set_cons_succ, i64_w, i32_w]
          rfl
        refine pure_ (i := 9) (N := some 46) (v := ?_) (a' := ?_) #[true, true, true, true, true, true, true, true, true, true, false, false] rfl rfl (by kernel_rfl) (fun _ _ _ h => h) (Or.inl ⟨by rfl, ?_⟩) ?_ ?_
        rotate_left
        · intro w'
          go_simp
          with_reducible rfl
        rotate_left
        · simp only [Act.put, List.setIfInBounds_toArray, List.set_cons_zero, List.set_cons_succ, i64_w, i32_w]
          rfl
        refine pure_ (i := 10) (N := some 47) (v := ?_) (a' := ?_) #[true, true, true, true, true, true, true, true, true, true, true, false] rfl rfl (by kernel_rfl) (fun _ _ _ h => h) (Or.inl ⟨by rfl, ?_⟩) ?_ ?_
        rotate_left
        · intro w'
          go_simp
          with_reducible rfl
        rotate_left
        · simp only [Act.put, List.setIfInBounds_toArray, List.set_cons_zero, List.set_cons_succ, i64_w, i32_w]
          rfl
        refine last_ (i := 11) (N := none) #[true, true, true, true, true, true, true, true, true, true, true, true] rfl rfl (by kernel_rfl) (by decide) (fun K hK => ?_)
        first | refine st_storeSlice 0 48 rfl rfl rfl rfl HO rfl rfl (by simp) (by kernel_rfl) ?_ | refine st_storeSlice 1 48 rfl rfl rfl rfl HO rfl rfl (by simp) (by kernel_rfl) ?_ | refine st_storeSlice 2 48 rfl rfl rfl rfl HO rfl rfl (by simp) (by kernel_rfl) ?_ | refine st_storeSlice 3 48 rfl rfl rfl rfl HO rfl rfl (by simp) (by kernel_rfl) ?_
        clear HO
        intro ws HO
        try simp only [List.set_cons_zero, List.set_cons_succ] at HO
        refine hK.out _ _ ?_
        clear hK K
        refine done_ (by kernel_rfl) ?_
        go_wp2_with (fail)
        go_roundg (rows - (j + 1))
        case measure => omega
        case rel =>
          have HO2 := HO.front 2 rfl
          simp only [List.eraseIdx_cons_succ, List.eraseIdx_cons_zero] at HO2
          have HO3 := HO2.perm (List.Perm.cons _ (List.Perm.cons _ List.perm_middle.symm))
          refine ⟨j + 1, rfl, by omega, rfl, .inr ⟨by omega, gr2, cap2, R ++ [(gm, Sk.zeros wd)], by simp [hR], ?_, ?_⟩⟩
          · intro p hp
            rcases List.mem_append.1 hp with hp | hp
            · exact hz p hp
            · rw [List.mem_singleton.1 hp]
          · simpa [SkE, rowV, rowE, cells64, Sk.zeros, hR] using HO3
      · obtain rfl : j = rows := by omega
        have hd : decide ((j : Int) < (j : Int)) = false := by simp
        go_wp2_with (fail)
        go_ret2
        exact ⟨gb, gr, cap, R, rfl, HO, hR, hz⟩
end Go.Proofs.Ytdjcgfknlhijiaa

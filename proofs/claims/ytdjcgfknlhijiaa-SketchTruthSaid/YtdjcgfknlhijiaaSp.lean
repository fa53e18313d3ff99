/- The reference's age. -/
import Derived.Test.YtdjcgfknlhijiaaSo
namespace Go.Proofs.Ytdjcgfknlhijiaa
set_option linter.unusedVariables false
set_option linter.unusedSimpArgs false
set_option linter.unnecessarySimpa false
open Go.RowKit Go.Proofs.YtdjcgfknlhijiaaW.PrintLast
set_option maxRecDepth 20000 in
set_option maxHeartbeats 4000000 in
theorem RAge_nil {w0 w : World} {L : List Ent} {g : Nat} {r wd af ad : Int} {s1 : Value} (HO : Own w0 w ((g, CellsP 35 (rsl r wd af ad s1 (.slice none 0 0))) :: L)) :
    Calls Try.prog 16 #[.pointer (some ⟨g, 0, none⟩)] w fun e w' => e = .returned (.tuple #[]) ∧ Own w0 w' ((g, CellsP 35 (rsl r wd af 0 s1 (.slice none 0 0))) :: L) := by
  go_enter Try.func16, Try.ntmps16
  go_wp2_with (first | (refine li_load 0 33 rfl rfl rfl HO rfl rfl (by kernel_rfl) ?_))
  go_loopg [8] 0 (fun k v wr => v = .int .i64 0 ∧ wr = w)
  case atStart => exact ⟨rfl, rfl⟩
  case round =>
    obtain ⟨rfl, rfl⟩ := hrel
    go_wp2_with (first | ((with_reducible refine gate_load 33 rfl ?_); first | (refine li_load 0 33 rfl rfl rfl HO rfl rfl (by kernel_rfl) ?_)) | ((with_reducible refine gate_load 3 rfl ?_); first | (refine li_load 0 3 rfl rfl rfl HO rfl rfl (by kernel_rfl) ?_)) | ((with_reducible refine gate_store 3 rfl ?_); first | (refine li_storeInt 0 3 rfl rfl rfl rfl HO rfl rfl (by simp) (by kernel_rfl) ?_; clear HO; intro ws HO; (try simp only [List.set_cons_zero, List.set_cons_succ] at HO))) | ((with_reducible refine gate_store 2 rfl ?_); first | (refine li_storeInt 0 2 rfl rfl rfl rfl HO rfl rfl (by simp) (by kernel_rfl) ?_; clear HO; intro ws HO; (try simp only [List.set_cons_zero, List.set_cons_succ] at HO))))
    go_end0
    exact ⟨rfl, HO⟩
set_option maxRecDepth 20000 in
set_option maxHeartbeats 4000000 in
theorem RAge_some {w0 w : World} {L : List Ent} {g g1 g2 c1 c2 N : Nat} {r wd af ad : Int} {cs ns : List Int} (HO : Own w0 w ((g, CellsP 35 (rsl r wd af ad (.slice (some ⟨g1, 0, none⟩) N c1) (.slice (some ⟨g2, 0, none⟩) N c2))) :: (g1, RowP 3 1 c1 (cells64 cs)) :: (g2, RowP 3 1 c2 (cells64 ns)) :: L)) (hN : ns.length = N) (hm : N ≤ 1000000) (hB : ∀ v ∈ ns, 0 ≤ v ∧ v ≤ 4611686018427387905) :
    Calls Try.prog 16 #[.pointer (some ⟨g, 0, none⟩)] w fun e w' => e = .returned (.tuple #[]) ∧ Own w0 w' ((g, CellsP 35 (rsl r wd af 0 (.slice (some ⟨g1, 0, none⟩) N c1) (.slice (some ⟨g2, 0, none⟩) N c2))) :: (g1, RowP 3 1 c1 (cells64 cs)) :: (g2, RowP 3 1 c2 (cells64 (ns.map (· / 2)))) :: L) := by
  go_enter Try.func16, Try.ntmps16
  go_wp2_with (first | (refine li_load 0 33 rfl rfl rfl HO rfl rfl (by kernel_rfl) ?_))
  go_loopg [8] N (fun k v wr => ∃ j : Nat, v = .int .i64 (j : Int) ∧ j ≤ N ∧ k = N - j ∧ Own w0 wr ((g, CellsP 35 (rsl r wd af ad (.slice (some ⟨g1, 0, none⟩) N c1) (.slice (some ⟨g2, 0, none⟩) N c2))) :: (g1, RowP 3 1 c1 (cells64 cs)) :: (g2, RowP 3 1 c2 (cells64 (Sk.hlf j ns))) :: L))
  case atStart => exact ⟨0, by rfl, by omega, by omega, by rw [Sk.hlf_zero]; exact HO⟩
  case round =>
    clear HO
    obtain ⟨j, rfl, j1, hk, HO⟩ := hrel
    rcases Nat.lt_or_ge j N with hj | hj
    · have hd : decide ((j : Int) < (N : Int)) = true := decide_eq_true (by omega)
      have hw1 : IntKind.i64.wrap ((j : Int) + 1) = ((j + 1 : Nat) : Int) := by rw [IntWalk.i64_in _ (by omega)]; rfl
      have hb0 : (0 : Int) ≤ (j : Int) := by omega
      have hb1 : (j : Int) < (N : Int) := by omega
      have hml : j < ns.length := by omega
      obtain ⟨v, hv⟩ : ∃ v, ns[j] = v := ⟨_, rfl⟩
      obtain ⟨v1, v2⟩ := hB v (by rw [← hv]; exact List.getElem_mem hml)
      have hget : (cells64 (Sk.hlf j ns))[j]? = some (.int .i64 v) := by simp [cells64, Sk.hlf_at hml, hv]
      have hq0 : v.tdiv 2 = v / 2 := Int.tdiv_eq_ediv_of_nonneg v1
      have hq : IntKind.i64.wrap (v / 2) = v / 2 := IntWalk.i64_in _ (by omega)
      have hsucc := Sk.hlf_succ hml
      rw [hv] at hsucc
      have hlh : j < (cells64 (Sk.hlf j ns)).length := by simp [cells64, Sk.hlf_length]; omega
      go_wp2_with (fail)
      refine start_ (n := 15) (S := fun w' => w'.cell? ⟨g, 5, none⟩ = some (.slice (some ⟨g2, 0, none⟩) N c2) ∧ w'.cell? ⟨g2, j, none⟩ = some (.int .i64 v)) (ds := [14]) #[false, false, false, false, false, false, false, false, false, false, false, false, false, false, false] (by kernel_rfl) rfl rfl ⟨(by first | exact HO.drew.cell 0 rfl _ rfl | exact HO.drew.cell 1 rfl _ rfl), (HO.drew.rowCell 2 rfl j hget)⟩ (fun hHeld => ?_)
      replace HO := HO.drew
      refine pure_ (i := 0) (N := some 11) (v := ?_) (a' := ?_) #[true, false, false, false, false, false, false, false, false, false, false, false, false, false, false] rfl rfl (by kernel_rfl) (fun _ _ _ h => h) (Or.inl ⟨by rfl, ?_⟩) ?_ ?_
      rotate_left
      · intro w'
        go_simp
        with_reducible rfl
      rotate_left
      · simp only [Act.put, List.setIfInBounds_toArray, List.set_cons_zero, List.set_cons_succ, i64_w, i32_w]
        rfl
      refine pure_ (i := 1) (N := some 12) (v := ?_) (a' := ?_) #[true, true, false, false, false, false, false, false, false, false, false, false, false, false, false] rfl rfl (by kernel_rfl) (fun _ _ _ h => h) (Or.inl ⟨by rfl, ?_⟩) ?_ ?_
      rotate_left
      · intro w'
        go_simp
        with_reducible rfl
      rotate_left
      · simp only [Act.put, List.setIfInBounds_toArray, List.set_cons_zero, List.set_cons_succ, i64_w, i32_w]
        rfl
      refine pure_ (i := 2) (N := some 13) (v := ?_) (a' := ?_) #[true, true, true, false, false, false, false, false, false, false, false, false, false, false, false] rfl rfl (by kernel_rfl) (fun _ _ _ h => h) (Or.inl ⟨by rfl, ?_⟩) ?_ ?_
      rotate_left
      · intro w'
        go_simp
        with_reducible rfl
      rotate_left
      · simp only [Act.put, List.setIfInBounds_toArray, List.set_cons_zero, List.set_cons_succ, i64_w, i32_w]
        rfl
      refine pure_ (i := 4) (N := some 15) (v := ?_) (a' := ?_) #[true, true, true, false, true, false, false, false, false, false, false, false, false, false, false] rfl rfl (by kernel_rfl) (fun _ _ _ h => h) (Or.inl ⟨by rfl, ?_⟩) ?_ ?_
      rotate_left
      · intro w'
        go_simp
        with_reducible rfl
      rotate_left
      · simp only [Act.put, List.setIfInBounds_toArray, List.set_cons_zero, List.set_cons_succ, i64_w, i32_w]
        rfl
      refine pure_ (i := 5) (N := some 16) (v := ?_) (a' := ?_) #[true, true, true, false, true, true, false, false, false, false, false, false, false, false, false] rfl rfl (by kernel_rfl) (fun _ _ _ h => h) (Or.inl ⟨by rfl, ?_⟩) ?_ ?_
      rotate_left
      · intro w'
        go_simp
        with_reducible rfl
      rotate_left
      · simp only [Act.put, List.setIfInBounds_toArray, List.set_cons_zero, List.set_cons_succ, i64_w, i32_w]
        rfl
      refine pure_ (i := 6) (N := some 17) (v := ?_) (a' := ?_) #[true, true, true, false, true, true, true, false, false, false, false, false, false, false, false] rfl rfl (by kernel_rfl) (fun _ _ _ h => h) (Or.inl ⟨by rfl, ?_⟩) ?_ ?_
      rotate_left
      · intro w'
        go_simp
        with_reducible rfl
      rotate_left
      · simp only [Act.put, List.setIfInBounds_toArray, List.set_cons_zero, List.set_cons_succ, i64_w, i32_w]
        rfl
      refine pure_ (i := 7) (N := some 18) (v := ?_) (a' := ?_) #[true, true, true, false, true, true, true, true, false, false, false, false, false, false, false] rfl rfl (by kernel_rfl) (fun _ _ _ h => h) (Or.inl ⟨by rfl, ?_⟩) ?_ ?_
      rotate_left
      · intro w'
        go_simp
        with_reducible rfl
      rotate_left
      · simp only [Act.put, List.setIfInBounds_toArray, List.set_cons_zero, List.set_cons_succ, i64_w, i32_w]
        rfl
      refine pure_ (i := 9) (N := some 20) (v := ?_) (a' := ?_) #[true, true, true, false, true, true, true, true, false, true, false, false, false, false, false] rfl rfl (by kernel_rfl) (fun _ _ _ h => h) (Or.inl ⟨by rfl, ?_⟩) ?_ ?_
      rotate_left
      · intro w'
        go_simp
        with_reducible rfl
      rotate_left
      · simp only [Act.put, List.setIfInBounds_toArray, List.set_cons_zero, List.set_cons_succ, i64_w, i32_w]
        rfl
      refine take_ (i := 3) (N := some 14) (v := ?_) (a' := ?_) #[true, true, true, true, true, true, true, true, false, true, false, false, false, false, false] rfl rfl (by kernel_rfl) (fun _ _ _ h => h) (Or.inl ⟨by rfl, ?_⟩) hHeld ?_ ?_
      rotate_left
      · rintro w' ⟨s0, s1⟩
        go_simp
        with_reducible rfl
      rotate_left
      · simp only [Act.put, List.setIfInBounds_toArray, List.set_cons_zero, List.set_cons_succ, i64_w, i32_w]
        rfl
      refine take_ (i := 8) (N := some 19) (v := ?_) (a' := ?_) #[true, true, true, true, true, true, true, true, true, true, false, false, false, false, false] rfl rfl (by kernel_rfl) (fun _ _ _ h => h) (Or.inl ⟨by rfl, ?_⟩) hHeld ?_ ?_
      rotate_left
      · rintro w' ⟨s0, s1⟩
        go_simp
        with_reducible rfl
      rotate_left
      · simp only [Act.put, List.setIfInBounds_toArray, List.set_cons_zero, List.set_cons_succ, i64_w, i32_w]
        rfl
      refine pure_ (i := 10) (N := some 21) (v := ?_) (a' := ?_) #[true, true, true, true, true, true, true, true, true, true, true, false, false, false, false] rfl rfl (by kernel_rfl) (fun _ _ _ h => h) (Or.inl ⟨by rfl, ?_⟩) ?_ ?_
      rotate_left
      · intro w'
        go_simp
        with_reducible rfl
      rotate_left
      · simp only [Act.put, List.setIfInBounds_toArray, List.set_cons_zero, List.set_cons_succ, i64_w, i32_w]
        rfl
      refine take_ (i := 11) (N := some 22) (v := ?_) (a' := ?_) #[true, true, true, true, true, true, true, true, true, true, true, true, false, false, false] rfl rfl (by kernel_rfl) (fun _ _ _ h => h) (Or.inl ⟨by rfl, ?_⟩) hHeld ?_ ?_
      rotate_left
      · rintro w' ⟨s0, s1⟩
        go_simp
        with_reducible rfl
      rotate_left
      · simp only [Act.put, List.setIfInBounds_toArray, List.set_cons_zero, List.set_cons_succ, i64_w, i32_w]
        rfl
      refine pure_ (i := 12) (N := some 23) (v := ?_) (a' := ?_) #[true, true, true, true, true, true, true, true, true, true, true, true, true, false, false] rfl rfl (by kernel_rfl) (fun _ _ _ h => h) (Or.inl ⟨by rfl, ?_⟩) ?_ ?_
      rotate_left
      · intro w'
        go_simp
        with_reducible rfl
      rotate_left
      · simp only [Act.put, List.setIfInBounds_toArray, List.set_cons_zero, List.set_cons_succ, i64_w, i32_w]
        rfl
      refine pure_ (i := 13) (N := some 24) (v := ?_) (a' := ?_) #[true, true, true, true, true, true, true, true, true, true, true, true, true, true, false] rfl rfl (by kernel_rfl) (fun _ _ _ h => h) (Or.inl ⟨by rfl, ?_⟩) ?_ ?_
      rotate_left
      · intro w'
        go_simp
        with_reducible rfl
      rotate_left
      · simp only [Act.put, List.setIfInBounds_toArray, List.set_cons_zero, List.set_cons_succ, i64_w, i32_w]
        rfl
      refine last_ (i := 14) (N := none) #[true, true, true, true, true, true, true, true, true, true, true, true, true, true, true] rfl rfl (by kernel_rfl) (by decide) (fun K hK => ?_)
      refine st_storeRowInt 2 rfl rfl rfl (off := j) rfl HO rfl rfl hlh (by kernel_rfl) ?_
      clear HO
      intro ws HO
      simp only [List.set_cons_zero, List.set_cons_succ] at HO
      refine hK.out _ _ ?_
      clear hK K
      refine done_ (by kernel_rfl) ?_
      have hset : (cells64 (Sk.hlf j ns)).set j (Value.int .i64 (v / 2)) = cells64 (Sk.hlf (j + 1) ns) := by rw [← hsucc]; simp [cells64, List.map_set]
      rw [hset] at HO
      go_wp2_with (fail)
      go_roundg (N - (j + 1))
      case measure => omega
      case rel => exact ⟨j + 1, rfl, by omega, rfl, HO⟩
    · obtain rfl : j = N := by omega
      have hd : decide ((j : Int) < (j : Int)) = false := by simp
      have hall : Sk.hlf j ns = ns.map (· / 2) := by rw [← hN]; exact Sk.hlf_all ns
      rw [hall] at HO
      go_wp2_with (first | ((with_reducible refine gate_load 33 rfl ?_); first | (refine li_load 0 33 rfl rfl rfl HO rfl rfl (by kernel_rfl) ?_)) | ((with_reducible refine gate_load 3 rfl ?_); first | (refine li_load 0 3 rfl rfl rfl HO rfl rfl (by kernel_rfl) ?_)) | ((with_reducible refine gate_store 3 rfl ?_); first | (refine li_storeInt 0 3 rfl rfl rfl rfl HO rfl rfl (by simp) (by kernel_rfl) ?_; clear HO; intro ws HO; (try simp only [List.set_cons_zero, List.set_cons_succ] at HO))) | ((with_reducible refine gate_store 2 rfl ?_); first | (refine li_storeInt 0 2 rfl rfl rfl rfl HO rfl rfl (by simp) (by kernel_rfl) ?_; clear HO; intro ws HO; (try simp only [List.set_cons_zero, List.set_cons_succ] at HO))))
      go_end0
      exact ⟨rfl, HO⟩
end Go.Proofs.Ytdjcgfknlhijiaa

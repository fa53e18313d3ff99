/- Adding a key to a sketch: every row's counter of it is one more; at so many adds all is halved. -/
import Derived.Test.YtdjcgfknlhijiaaSd
namespace Go.Proofs.Ytdjcgfknlhijiaa
set_option linter.unusedVariables false
set_option linter.unusedSimpArgs false
set_option linter.unnecessarySimpa false
open Go.RowKit Go.Proofs.YtdjcgfknlhijiaaW.PrintLast
set_option maxRecDepth 20000 in
set_option maxHeartbeats 4000000 in
theorem Add_any {w0 w : World} {L : List Ent} {g gr cap : Nat} {af ad B : Int} {R : List Row} {wd : Nat} (key : Int) (HO : Own w0 w (SkE g gr cap af ad R ++ L)) (k1 : 0 ≤ key) (k2 : key < 18446744073709551616) (hS : Sk.Shape wd R) (hB : Sk.Bd B R) (B1 : B ≤ 4611686018427387904) (a1 : 0 ≤ ad) (a2 : ad ≤ 4611686018427387904) (B0 : 0 ≤ B) :
    Calls Try.prog 13 #[.pointer (some ⟨g, 0, none⟩), .int .u64 key] w fun e w' => e = .returned (.tuple #[]) ∧ Own w0 w' (SkE g gr cap af (Sk.adds af ad) (Sk.added af ad key R) ++ L) := by
  have hf := hS.few
  have h1 := hS.some_
  obtain ⟨n, hn⟩ : ∃ n, R.length = n := ⟨_, rfl⟩
  go_enter Try.func13, Try.ntmps13
  go_wp2_with (first | (refine li_load 0 48 rfl rfl rfl HO rfl rfl (by kernel_rfl) ?_))
  go_loopg [10] n (fun k v wr => ∃ j : Nat, v = .int .i64 (j : Int) ∧ j ≤ n ∧ k = n - j ∧ Own w0 wr (SkE g gr cap af ad (Sk.bumped key j R) ++ L))
  case atStart => exact ⟨0, by rfl, by omega, by omega, by rw [Sk.bumped_zero]; exact HO⟩
  case round =>
    clear HO
    obtain ⟨j, rfl, j1, hk, HO⟩ := hrel
    have hw1 : IntKind.i64.wrap ((j : Int) + 1) = ((j + 1 : Nat) : Int) := by rw [IntWalk.i64_in _ (by omega)]; rfl
    rcases Nat.lt_or_ge j n with hj | hj
    · have hd : decide ((j : Int) < (n : Int)) = true := decide_eq_true (by omega)
      obtain ⟨⟨b, l⟩, hjR⟩ : ∃ p, R[j]? = some p := ⟨_, List.getElem?_eq_getElem (by omega)⟩
      have hjb : (Sk.bumped key j R)[j]? = some (b, l) := by rw [Sk.bumped_at]; exact hjR
      have hmem : (b, l) ∈ R := List.mem_of_getElem? hjR
      have hlw : l.length = wd := hS.all _ hmem
      have hw1' := hS.w1
      have hw2' := hS.w2
      have hIl := Sk.ixn_lt key j l.length (by omega)
      obtain ⟨I, hI⟩ : ∃ I, Sk.ixn key j l.length = I := ⟨_, rfl⟩
      rw [hI] at hIl
      obtain ⟨v, hv⟩ : ∃ v, l[I] = v := ⟨_, rfl⟩
      obtain ⟨v1, v2⟩ := hB _ hmem v (by rw [← hv]; exact List.getElem_mem hIl)
      have hget : (cells64 l)[I]? = some (.int .i64 v) := by rw [cells64_get hIl, hv]
      have hw3 : IntKind.i64.wrap (v + 1) = v + 1 := IntWalk.i64_in _ (by omega)
      have hbump : Sk.bump key j (b, l) = (b, l.set I (v + 1)) := by
        unfold Sk.bump
        simp only [hI]
        rw [List.getD_eq_getElem?_getD, List.getElem?_eq_getElem hIl, hv]; rfl
      go_wp2_with (first | (go_at_call 22; refine (counter_any key (j : Int) b l HO k1 k2 (by omega) (by simpa using hjb) (by omega) (by omega) (by rw [Sk.bumped_length]; omega)).mono ?_; rw [hI]; rintro e w1 ⟨rfl, rfl⟩) | (refine li_loadRow (j + 2) 3 rfl rfl rfl HO (SkE_row hjb) hget (by kernel_rfl) ?_) | (refine li_storeRowInt (j + 2) rfl rfl rfl rfl HO (SkE_row hjb) rfl (by simpa [cells64] using hIl) (by kernel_rfl) ?_; intro w1 HO1; rw [SkE_set hjb, ← hbump, Sk.bumped_succ key j R hjR] at HO1; clear HO; have HO := HO1; clear HO1))
      go_roundg (n - (j + 1))
      case measure => omega
      case rel => exact ⟨j + 1, rfl, by omega, rfl, HO⟩
    · obtain rfl : j = n := by omega
      have hd : decide ((j : Int) < (j : Int)) = false := by simp
      subst hn
      have hsh := Sk.bumped_shape (key := key) (k := R.length) hS
      have hbd := Sk.bumped_bd (key := key) (k := R.length) hB B0
      obtain ⟨R1, hR1⟩ : ∃ R1, Sk.bumped key R.length R = R1 := ⟨_, rfl⟩
      rw [hR1] at HO hsh hbd
      have hw2 : IntKind.i64.wrap (ad + 1) = ad + 1 := IntWalk.i64_in _ (by omega)
      have hlen : R1.length = R.length := by rw [← hR1, Sk.bumped_length]
      unfold SkE at HO
      simp only [List.cons_append] at HO
      by_cases hlt : ad + 1 < af
      · have ha : Sk.adds af ad = ad + 1 := by unfold Sk.adds; rw [if_pos hlt]
        have hb : Sk.added af ad key R = R1 := by unfold Sk.added; rw [if_pos hlt, hR1]
        have hd2 : decide (af ≤ ad + 1) = false := decide_eq_false (by omega)
        go_wp2_with (first | ((with_reducible refine gate_load 48 rfl ?_); first | (refine li_load 0 48 rfl rfl rfl HO rfl rfl (by kernel_rfl) ?_)) | ((with_reducible refine gate_load 3 rfl ?_); first | (refine li_load 0 3 rfl rfl rfl HO rfl rfl (by kernel_rfl) ?_)) | ((with_reducible refine gate_store 3 rfl ?_); first | (refine li_storeInt 0 3 rfl rfl rfl rfl HO rfl rfl (by simp) (by kernel_rfl) ?_; clear HO; intro ws HO; (try simp only [List.set_cons_zero, List.set_cons_succ] at HO))) | ((with_reducible refine gate_load 2 rfl ?_); first | (refine li_load 0 2 rfl rfl rfl HO rfl rfl (by kernel_rfl) ?_)) | ((with_reducible refine gate_store 2 rfl ?_); first | (refine li_storeInt 0 2 rfl rfl rfl rfl HO rfl rfl (by simp) (by kernel_rfl) ?_; clear HO; intro ws HO; (try simp only [List.set_cons_zero, List.set_cons_succ] at HO))))
        refine start_ (n := 9) (S := fun w' => w'.cell? ⟨g, 2, none⟩ = some (.int .i64 (ad + 1)) ∧ w'.cell? ⟨g, 1, none⟩ = some (.int .i64 af)) (ds := []) #[false, false, false, false, false, false, false, false, false] (by kernel_rfl) rfl rfl ⟨(by first | exact HO.drew.cell 0 rfl _ rfl), (by first | exact HO.drew.cell 0 rfl _ rfl)⟩ (fun hHeld => ?_)
        replace HO := HO.drew
        refine pure_ (i := 0) (N := some 29) (v := ?_) (a' := ?_) #[true, false, false, false, false, false, false, false, false] rfl rfl (by kernel_rfl) (fun _ _ _ h => h) (Or.inl ⟨by rfl, ?_⟩) ?_ ?_
        rotate_left
        · intro w'
          go_simp
          with_reducible rfl
        rotate_left
        · simp only [Act.put, List.setIfInBounds_toArray, List.set_cons_zero, List.set_cons_succ, i64_w, i32_w]
          rfl
        refine pure_ (i := 1) (N := some 30) (v := ?_) (a' := ?_) #[true, true, false, false, false, false, false, false, false] rfl rfl (by kernel_rfl) (fun _ _ _ h => h) (Or.inl ⟨by rfl, ?_⟩) ?_ ?_
        rotate_left
        · intro w'
          go_simp
          with_reducible rfl
        rotate_left
        · simp only [Act.put, List.setIfInBounds_toArray, List.set_cons_zero, List.set_cons_succ, i64_w, i32_w]
          rfl
        refine pure_ (i := 2) (N := some 31) (v := ?_) (a' := ?_) #[true, true, true, false, false, false, false, false, false] rfl rfl (by kernel_rfl) (fun _ _ _ h => h) (Or.inl ⟨by rfl, ?_⟩) ?_ ?_
        rotate_left
        · intro w'
          go_simp
          with_reducible rfl
        rotate_left
        · simp only [Act.put, List.setIfInBounds_toArray, List.set_cons_zero, List.set_cons_succ, i64_w, i32_w]
          rfl
        refine pure_ (i := 4) (N := some 33) (v := ?_) (a' := ?_) #[true, true, true, false, true, false, false, false, false] rfl rfl (by kernel_rfl) (fun _ _ _ h => h) (Or.inl ⟨by rfl, ?_⟩) ?_ ?_
        rotate_left
        · intro w'
          go_simp
          with_reducible rfl
        rotate_left
        · simp only [Act.put, List.setIfInBounds_toArray, List.set_cons_zero, List.set_cons_succ, i64_w, i32_w]
          rfl
        refine pure_ (i := 5) (N := some 34) (v := ?_) (a' := ?_) #[true, true, true, false, true, true, false, false, false] rfl rfl (by kernel_rfl) (fun _ _ _ h => h) (Or.inl ⟨by rfl, ?_⟩) ?_ ?_
        rotate_left
        · intro w'
          go_simp
          with_reducible rfl
        rotate_left
        · simp only [Act.put, List.setIfInBounds_toArray, List.set_cons_zero, List.set_cons_succ, i64_w, i32_w]
          rfl
        refine pure_ (i := 6) (N := some 35) (v := ?_) (a' := ?_) #[true, true, true, false, true, true, true, false, false] rfl rfl (by kernel_rfl) (fun _ _ _ h => h) (Or.inl ⟨by rfl, ?_⟩) ?_ ?_
        rotate_left
        · intro w'
          go_simp
          with_reducible rfl
        rotate_left
        · simp only [Act.put, List.setIfInBounds_toArray, List.set_cons_zero, List.set_cons_succ, i64_w, i32_w]
          rfl
        refine take_ (i := 3) (N := some 32) (v := ?_) (a' := ?_) #[true, true, true, true, true, true, true, false, false] rfl rfl (by kernel_rfl) (fun _ _ _ h => h) (Or.inl ⟨by rfl, ?_⟩) hHeld ?_ ?_
        rotate_left
        · rintro w' ⟨s0, s1⟩
          go_simp
          with_reducible rfl
        rotate_left
        · simp only [Act.put, List.setIfInBounds_toArray, List.set_cons_zero, List.set_cons_succ, i64_w, i32_w]
          rfl
        refine take_ (i := 7) (N := some 36) (v := ?_) (a' := ?_) #[true, true, true, true, true, true, true, true, false] rfl rfl (by kernel_rfl) (fun _ _ _ h => h) (Or.inl ⟨by rfl, ?_⟩) hHeld ?_ ?_
        rotate_left
        · rintro w' ⟨s0, s1⟩
          go_simp
          with_reducible rfl
        rotate_left
        · simp only [Act.put, List.setIfInBounds_toArray, List.set_cons_zero, List.set_cons_succ, i64_w, i32_w]
          rfl
        refine pure_ (i := 8) (N := some 37) (v := ?_) (a' := ?_) #[true, true, true, true, true, true, true, true, true] rfl rfl (by kernel_rfl) (fun _ _ _ h => h) (Or.inl ⟨by rfl, ?_⟩) ?_ ?_
        rotate_left
        · intro w'
          go_simp
          with_reducible rfl
        rotate_left
        · simp only [Act.put, List.setIfInBounds_toArray, List.set_cons_zero, List.set_cons_succ, i64_w, i32_w]
          rfl
        refine done_ (by kernel_rfl) ?_
        go_wp2_with (fail)
        go_end0
        exact ⟨rfl, by rw [ha, hb]; exact HO⟩
      · have ha : Sk.adds af ad = 0 := by unfold Sk.adds; rw [if_neg hlt]
        have hb : Sk.added af ad key R = Sk.halve R1 := by unfold Sk.added; rw [if_neg hlt, hR1]
        have hd2 : decide (af ≤ ad + 1) = true := decide_eq_true (by omega)
        go_wp2_with (first | ((with_reducible refine gate_load 48 rfl ?_); first | (refine li_load 0 48 rfl rfl rfl HO rfl rfl (by kernel_rfl) ?_)) | ((with_reducible refine gate_load 3 rfl ?_); first | (refine li_load 0 3 rfl rfl rfl HO rfl rfl (by kernel_rfl) ?_)) | ((with_reducible refine gate_store 3 rfl ?_); first | (refine li_storeInt 0 3 rfl rfl rfl rfl HO rfl rfl (by simp) (by kernel_rfl) ?_; clear HO; intro ws HO; (try simp only [List.set_cons_zero, List.set_cons_succ] at HO))) | ((with_reducible refine gate_load 2 rfl ?_); first | (refine li_load 0 2 rfl rfl rfl HO rfl rfl (by kernel_rfl) ?_)) | ((with_reducible refine gate_store 2 rfl ?_); first | (refine li_storeInt 0 2 rfl rfl rfl rfl HO rfl rfl (by simp) (by kernel_rfl) ?_; clear HO; intro ws HO; (try simp only [List.set_cons_zero, List.set_cons_succ] at HO))))
        refine start_ (n := 9) (S := fun w' => w'.cell? ⟨g, 2, none⟩ = some (.int .i64 (ad + 1)) ∧ w'.cell? ⟨g, 1, none⟩ = some (.int .i64 af)) (ds := []) #[false, false, false, false, false, false, false, false, false] (by kernel_rfl) rfl rfl ⟨(by first | exact HO.drew.cell 0 rfl _ rfl), (by first | exact HO.drew.cell 0 rfl _ rfl)⟩ (fun hHeld => ?_)
        replace HO := HO.drew
        refine pure_ (i := 0) (N := some 29) (v := ?_) (a' := ?_) #[true, false, false, false, false, false, false, false, false] rfl rfl (by kernel_rfl) (fun _ _ _ h => h) (Or.inl ⟨by rfl, ?_⟩) ?_ ?_
        rotate_left
        · intro w'
          go_simp
          with_reducible rfl
        rotate_left
        · simp only [Act.put, List.setIfInBounds_toArray, List.set_cons_zero, List.set_cons_succ, i64_w, i32_w]
          rfl
        refine pure_ (i := 1) (N := some 30) (v := ?_) (a' := ?_) #[true, true, false, false, false, false, false, false, false] rfl rfl (by kernel_rfl) (fun _ _ _ h => h) (Or.inl ⟨by rfl, ?_⟩) ?_ ?_
        rotate_left
        · intro w'
          go_simp
          with_reducible rfl
        rotate_left
        · simp only [Act.put, List.setIfInBounds_toArray, List.set_cons_zero, List.set_cons_succ, i64_w, i32_w]
          rfl
        refine pure_ (i := 2) (N := some 31) (v := ?_) (a' := ?_) #[true, true, true, false, false, false, false, false, false] rfl rfl (by kernel_rfl) (fun _ _ _ h => h) (Or.inl ⟨by rfl, ?_⟩) ?_ ?_
        rotate_left
        · intro w'
          go_simp
          with_reducible rfl
        rotate_left
        · simp only [Act.put, List.setIfInBounds_toArray, List.set_cons_zero, List.set_cons_succ, i64_w, i32_w]
          rfl
        refine pure_ (i := 4) (N := some 33) (v := ?_) (a' := ?_) #[true, true, true, false, true, false, false, false, false] rfl rfl (by kernel_rfl) (fun _ _ _ h => h) (Or.inl ⟨by rfl, ?_⟩) ?_ ?_
        rotate_left
        · intro w'
          go_simp
          with_reducible rfl
        rotate_left
        · simp only [Act.put, List.setIfInBounds_toArray, List.set_cons_zero, List.set_cons_succ, i64_w, i32_w]
          rfl
        refine pure_ (i := 5) (N := some 34) (v := ?_) (a' := ?_) #[true, true, true, false, true, true, false, false, false] rfl rfl (by kernel_rfl) (fun _ _ _ h => h) (Or.inl ⟨by rfl, ?_⟩) ?_ ?_
        rotate_left
        · intro w'
          go_simp
          with_reducible rfl
        rotate_left
        · simp only [Act.put, List.setIfInBounds_toArray, List.set_cons_zero, List.set_cons_succ, i64_w, i32_w]
          rfl
        refine pure_ (i := 6) (N := some 35) (v := ?_) (a' := ?_) #[true, true, true, false, true, true, true, false, false] rfl rfl (by kernel_rfl) (fun _ _ _ h => h) (Or.inl ⟨by rfl, ?_⟩) ?_ ?_
        rotate_left
        · intro w'
          go_simp
          with_reducible rfl
        rotate_left
        · simp only [Act.put, List.setIfInBounds_toArray, List.set_cons_zero, List.set_cons_succ, i64_w, i32_w]
          rfl
        refine take_ (i := 3) (N := some 32) (v := ?_) (a' := ?_) #[true, true, true, true, true, true, true, false, false] rfl rfl (by kernel_rfl) (fun _ _ _ h => h) (Or.inl ⟨by rfl, ?_⟩) hHeld ?_ ?_
        rotate_left
        · rintro w' ⟨s0, s1⟩
          go_simp
          with_reducible rfl
        rotate_left
        · simp only [Act.put, List.setIfInBounds_toArray, List.set_cons_zero, List.set_cons_succ, i64_w, i32_w]
          rfl
        refine take_ (i := 7) (N := some 36) (v := ?_) (a' := ?_) #[true, true, true, true, true, true, true, true, false] rfl rfl (by kernel_rfl) (fun _ _ _ h => h) (Or.inl ⟨by rfl, ?_⟩) hHeld ?_ ?_
        rotate_left
        · rintro w' ⟨s0, s1⟩
          go_simp
          with_reducible rfl
        rotate_left
        · simp only [Act.put, List.setIfInBounds_toArray, List.set_cons_zero, List.set_cons_succ, i64_w, i32_w]
          rfl
        refine pure_ (i := 8) (N := some 37) (v := ?_) (a' := ?_) #[true, true, true, true, true, true, true, true, true] rfl rfl (by kernel_rfl) (fun _ _ _ h => h) (Or.inl ⟨by rfl, ?_⟩) ?_ ?_
        rotate_left
        · intro w'
          go_simp
          with_reducible rfl
        rotate_left
        · simp only [Act.put, List.setIfInBounds_toArray, List.set_cons_zero, List.set_cons_succ, i64_w, i32_w]
          rfl
        refine done_ (by kernel_rfl) ?_
        go_wp2_with (first | (go_at_call 15; refine (Age_any (R := R1) HO hsh hbd (by omega)).mono ?_; rintro e w1 ⟨rfl, HO1⟩; clear HO; have HO := HO1; clear HO1))
        go_end0
        exact ⟨rfl, by rw [ha, hb]; exact HO⟩
end Go.Proofs.Ytdjcgfknlhijiaa

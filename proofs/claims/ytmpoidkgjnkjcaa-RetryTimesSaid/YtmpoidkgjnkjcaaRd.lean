/- The contract of the reference's Fail, of its Ready, and of its fuse. -/
import Derived.Test.YtmpoidkgjnkjcaaRc
import Derived.Test.YtmpoidkgjnkjcaaE
import Derived.Test.YtmpoidkgjnkjcaaWLast
namespace Go.Proofs.Ytmpoidkgjnkjcaa
set_option linter.unusedVariables false
set_option linter.unusedSimpArgs false
set_option linter.unnecessarySimpa false
open Go.RowKit Go.Proofs.YtmpoidkgjnkjcaaW.PrintLast
set_option maxHeartbeats 4000000 in
theorem RFail_over (b f m r nx now : Int) (w : World) (h0 : 0 ≤ r) (h5 : r ≤ 1000) (h6 : b < r + 1) :
    Calls Try.prog 12 #[rtim b f m r nx, .int .i64 now] w fun e w' => e = .returned (.tuple #[rtim b f m (r + 1) nx, .int .i64 0, .bool false]) ∧ Below w.heap.size w w' := by
  have HO := Own.nil w
  go_enter Try.func12, Try.ntmps12
  go_wp2_with (first | (refine li_boxAgg 30 rfl rfl rfl HO ?_; clear HO; intro gb wb HO) | (refine li_alloc (t := 30) rfl rfl (z := .agg #[.int .i64 0, .int .i64 0, .int .i64 0, .int .i64 0, .int .i64 0]) (cs := [.int .i64 0, .int .i64 0, .int .i64 0, .int .i64 0, .int .i64 0]) (by kernel_rfl) rfl HO ?_; clear HO; intro ga wa HO) | ((with_reducible refine gate_load 3 rfl ?_); first | (refine li_load 0 3 rfl rfl rfl HO rfl rfl (by kernel_rfl) ?_) | (refine li_load 1 3 rfl rfl rfl HO rfl rfl (by kernel_rfl) ?_)) | ((with_reducible refine gate_store 3 rfl ?_); first | (refine li_storeInt 0 3 rfl rfl rfl rfl HO rfl rfl (by simp) (by kernel_rfl) ?_; clear HO; intro ws HO; (try simp only [List.set_cons_zero, List.set_cons_succ] at HO)) | (refine li_storeInt 1 3 rfl rfl rfl rfl HO rfl rfl (by simp) (by kernel_rfl) ?_; clear HO; intro ws HO; (try simp only [List.set_cons_zero, List.set_cons_succ] at HO))) | ((with_reducible refine gate_load 30 rfl ?_); first | (refine li_loadWhole 0 30 5 rfl rfl rfl HO rfl rfl (by kernel_rfl) (by kernel_rfl) (by kernel_rfl) ?_) | (refine li_loadWhole 1 30 5 rfl rfl rfl HO rfl rfl (by kernel_rfl) (by kernel_rfl) (by kernel_rfl) ?_)) | ((with_reducible refine gate_store 30 rfl ?_); first | (refine li_storeAgg 0 30 rfl rfl rfl rfl HO rfl rfl rfl rfl (by kernel_rfl) ?_; clear HO; intro ws HO; (try simp only [List.set_cons_zero, List.set_cons_succ] at HO)) | (refine li_storeAgg 1 30 rfl rfl rfl rfl HO rfl rfl rfl rfl (by kernel_rfl) ?_; clear HO; intro ws HO; (try simp only [List.set_cons_zero, List.set_cons_succ] at HO))) | ((with_reducible refine gate_store 2 rfl ?_); first | (refine li_storeInt 0 2 rfl rfl rfl rfl HO rfl rfl (by simp) (by kernel_rfl) ?_; clear HO; intro ws HO; (try simp only [List.set_cons_zero, List.set_cons_succ] at HO)) | (refine li_storeInt 1 2 rfl rfl rfl rfl HO rfl rfl (by simp) (by kernel_rfl) ?_; clear HO; intro ws HO; (try simp only [List.set_cons_zero, List.set_cons_succ] at HO))) | ((with_reducible refine gate_load 2 rfl ?_); first | (refine li_load 0 2 rfl rfl rfl HO rfl rfl (by kernel_rfl) ?_) | (refine li_load 1 2 rfl rfl rfl HO rfl rfl (by kernel_rfl) ?_)) | (go_at_call 26; refine (Over_any _ _ _ _ _ _).mono ?_; rintro e w1 ⟨rfl, hb⟩; replace HO := HO.next hb; clear hb))
  refine bodyPost_ret (v := .tuple #[rtim b f m (r + 1) nx, .int .i64 0, .bool false]) ?_ rfl ⟨rfl, HO.below⟩
  simp [results, Try.results12, asAddr, HO.loadWhole (P := Try.prog) 0 rfl 30 5 rfl (by kernel_rfl) (by kernel_rfl) (by kernel_rfl)]
set_option maxHeartbeats 4000000 in
theorem RFail_yes (b f m r nx now : Int) (w : World) (h0 : 0 ≤ r) (h5 : r ≤ 1000) (h6 : r + 1 ≤ b) (h1 : 1 ≤ f) (h2 : f ≤ m) (h3 : m ≤ 1099511627776) :
    Calls Try.prog 12 #[rtim b f m r nx, .int .i64 now] w fun e w' => e = .returned (.tuple #[rtim b f m (r + 1) (Rt.held now + Rt.dbl f m r.toNat), .int .i64 (Rt.held now + Rt.dbl f m r.toNat), .bool true]) ∧ Below w.heap.size w w' := by
  obtain ⟨b1, b2⟩ := Rt.held_bd now
  obtain ⟨b3, b4⟩ := Rt.dbl_bd f m h1 h2 ((r + 1).toNat - 1)
  have e1 : (r + 1).toNat - 1 = r.toNat := by omega
  rw [← e1]
  clear e1
  have hwr : IntKind.i64.wrap (Rt.held now + Rt.dbl f m ((r + 1).toNat - 1)) = Rt.held now + Rt.dbl f m ((r + 1).toNat - 1) := IntWalk.i64_in _ (by omega)
  have HO := Own.nil w
  go_enter Try.func12, Try.ntmps12
  go_wp2_with (first | (refine li_boxAgg 30 rfl rfl rfl HO ?_; clear HO; intro gb wb HO) | (refine li_alloc (t := 30) rfl rfl (z := .agg #[.int .i64 0, .int .i64 0, .int .i64 0, .int .i64 0, .int .i64 0]) (cs := [.int .i64 0, .int .i64 0, .int .i64 0, .int .i64 0, .int .i64 0]) (by kernel_rfl) rfl HO ?_; clear HO; intro ga wa HO) | ((with_reducible refine gate_load 3 rfl ?_); first | (refine li_load 0 3 rfl rfl rfl HO rfl rfl (by kernel_rfl) ?_) | (refine li_load 1 3 rfl rfl rfl HO rfl rfl (by kernel_rfl) ?_)) | ((with_reducible refine gate_store 3 rfl ?_); first | (refine li_storeInt 0 3 rfl rfl rfl rfl HO rfl rfl (by simp) (by kernel_rfl) ?_; clear HO; intro ws HO; (try simp only [List.set_cons_zero, List.set_cons_succ] at HO)) | (refine li_storeInt 1 3 rfl rfl rfl rfl HO rfl rfl (by simp) (by kernel_rfl) ?_; clear HO; intro ws HO; (try simp only [List.set_cons_zero, List.set_cons_succ] at HO))) | ((with_reducible refine gate_load 30 rfl ?_); first | (refine li_loadWhole 0 30 5 rfl rfl rfl HO rfl rfl (by kernel_rfl) (by kernel_rfl) (by kernel_rfl) ?_) | (refine li_loadWhole 1 30 5 rfl rfl rfl HO rfl rfl (by kernel_rfl) (by kernel_rfl) (by kernel_rfl) ?_)) | ((with_reducible refine gate_store 30 rfl ?_); first | (refine li_storeAgg 0 30 rfl rfl rfl rfl HO rfl rfl rfl rfl (by kernel_rfl) ?_; clear HO; intro ws HO; (try simp only [List.set_cons_zero, List.set_cons_succ] at HO)) | (refine li_storeAgg 1 30 rfl rfl rfl rfl HO rfl rfl rfl rfl (by kernel_rfl) ?_; clear HO; intro ws HO; (try simp only [List.set_cons_zero, List.set_cons_succ] at HO))) | ((with_reducible refine gate_store 2 rfl ?_); first | (refine li_storeInt 0 2 rfl rfl rfl rfl HO rfl rfl (by simp) (by kernel_rfl) ?_; clear HO; intro ws HO; (try simp only [List.set_cons_zero, List.set_cons_succ] at HO)) | (refine li_storeInt 1 2 rfl rfl rfl rfl HO rfl rfl (by simp) (by kernel_rfl) ?_; clear HO; intro ws HO; (try simp only [List.set_cons_zero, List.set_cons_succ] at HO))) | ((with_reducible refine gate_load 2 rfl ?_); first | (refine li_load 0 2 rfl rfl rfl HO rfl rfl (by kernel_rfl) ?_) | (refine li_load 1 2 rfl rfl rfl HO rfl rfl (by kernel_rfl) ?_)) | (go_at_call 26; refine (Over_any _ _ _ _ _ _).mono ?_; rintro e w1 ⟨rfl, hb⟩; replace HO := HO.next hb; clear hb))
  refine start_ (n := 9) (S := fun w' => w'.cell? ⟨gb, 0, none⟩ = some (.int .i64 b) ∧ w'.cell? ⟨gb, 1, none⟩ = some (.int .i64 f) ∧ w'.cell? ⟨gb, 2, none⟩ = some (.int .i64 m) ∧ w'.cell? ⟨gb, 3, none⟩ = some (.int .i64 (r + 1)) ∧ w'.cell? ⟨gb, 4, none⟩ = some (.int .i64 nx)) (ds := [8]) #[false, false, false, false, false, false, false, false, false] (by kernel_rfl) rfl rfl ⟨(by first | exact HO.drew.cell 0 rfl _ rfl | exact HO.drew.cell 1 rfl _ rfl | exact HO.drew.cell 2 rfl _ rfl), (by first | exact HO.drew.cell 0 rfl _ rfl | exact HO.drew.cell 1 rfl _ rfl | exact HO.drew.cell 2 rfl _ rfl), (by first | exact HO.drew.cell 0 rfl _ rfl | exact HO.drew.cell 1 rfl _ rfl | exact HO.drew.cell 2 rfl _ rfl), (by first | exact HO.drew.cell 0 rfl _ rfl | exact HO.drew.cell 1 rfl _ rfl | exact HO.drew.cell 2 rfl _ rfl), (by first | exact HO.drew.cell 0 rfl _ rfl | exact HO.drew.cell 1 rfl _ rfl | exact HO.drew.cell 2 rfl _ rfl)⟩ (fun hHeld => ?_)
  replace HO := HO.drew
  refine pure_ (i := 0) (N := some 14) (v := ?_) (a' := ?_) #[true, false, false, false, false, false, false, false, false] rfl rfl (by kernel_rfl) (fun _ _ _ h => h) (Or.inl ⟨by rfl, ?_⟩) ?_ ?_
  rotate_left
  · intro w'
    go_simp
    with_reducible rfl
  rotate_left
  · simp only [Act.put, List.setIfInBounds_toArray, List.set_cons_zero, List.set_cons_succ, i64_w, i32_w]
    rfl
  refine pure_ (i := 3) (N := some 17) (v := ?_) (a' := ?_) #[true, false, false, true, false, false, false, false, false] rfl rfl (by kernel_rfl) (fun _ _ _ h => h) (Or.inl ⟨by rfl, ?_⟩) ?_ ?_
  rotate_left
  · intro w'
    go_simp
    with_reducible rfl
  rotate_left
  · simp only [Act.put, List.setIfInBounds_toArray, List.set_cons_zero, List.set_cons_succ, i64_w, i32_w]
    rfl
  refine take_ (i := 2) (N := some 16) (v := ?_) (a' := ?_) #[true, false, true, true, false, false, false, false, false] rfl rfl (by kernel_rfl) (fun _ _ _ h => h) (Or.inl ⟨by rfl, ?_⟩) hHeld ?_ ?_
  rotate_left
  · rintro w' ⟨s0, s1, s2, s3, s4⟩
    go_simp
    with_reducible rfl
  rotate_left
  · simp only [Act.put, List.setIfInBounds_toArray, List.set_cons_zero, List.set_cons_succ, i64_w, i32_w]
    rfl
  refine take_ (i := 4) (N := some 18) (v := ?_) (a' := ?_) #[true, false, true, true, true, false, false, false, false] rfl rfl (by kernel_rfl) (fun _ _ _ h => h) (Or.inl ⟨by rfl, ?_⟩) hHeld ?_ ?_
  rotate_left
  · rintro w' ⟨s0, s1, s2, s3, s4⟩
    go_simp
    with_reducible rfl
  rotate_left
  · simp only [Act.put, List.setIfInBounds_toArray, List.set_cons_zero, List.set_cons_succ, i64_w, i32_w]
    rfl
  refine one_ (i := 1) (N := some 15) #[true, true, true, true, true, false, false, false, false] rfl rfl (by kernel_rfl) (by decide) (fun K hK => ?_)
  refine goes_ Try.func27 (by kernel_rfl) rfl #[.int .i64 now] (by rfl) rfl rfl (by simp only [List.map_toArray, List.map_cons, List.map_nil]; rfl) ?_
  with_reducible refine (Tick_any _ _).mono ?_
  rintro e w1 ⟨rfl, rfl⟩
  refine ⟨_, rfl, ?_⟩
  refine hK.out _ _ ⟨(by first | exact HO.cell 0 rfl _ rfl | exact HO.cell 1 rfl _ rfl | exact HO.cell 2 rfl _ rfl), (by first | exact HO.cell 0 rfl _ rfl | exact HO.cell 1 rfl _ rfl | exact HO.cell 2 rfl _ rfl), (by first | exact HO.cell 0 rfl _ rfl | exact HO.cell 1 rfl _ rfl | exact HO.cell 2 rfl _ rfl), (by first | exact HO.cell 0 rfl _ rfl | exact HO.cell 1 rfl _ rfl | exact HO.cell 2 rfl _ rfl), (by first | exact HO.cell 0 rfl _ rfl | exact HO.cell 1 rfl _ rfl | exact HO.cell 2 rfl _ rfl)⟩ (fun hHeld => ?_)
  clear hK K
  refine norm_ (a' := ?_) ?_ ?_
  rotate_left
  · show Act.put _ (some 15) _ = _
    simp only [Act.put, List.setIfInBounds_toArray, List.set_cons_zero, List.set_cons_succ, i64_w, i32_w]
    rfl
  refine one_ (i := 5) (N := some 19) #[true, true, true, true, true, true, false, false, false] rfl rfl (by kernel_rfl) (by decide) (fun K hK => ?_)
  refine goes_ Try.func28 (by kernel_rfl) rfl #[rtim b f m (r + 1) nx, .int .i64 (r + 1)] (by rfl) rfl rfl (by simp only [List.map_toArray, List.map_cons, List.map_nil]; rfl) ?_
  with_reducible refine (RRest_any b f m (r + 1) nx (r + 1) _ h1 h2 h3 (by omega) (by omega)).mono ?_
  rintro e w1 ⟨rfl, hb⟩
  refine ⟨_, rfl, ?_⟩
  replace HO := HO.next hb
  clear hb
  refine hK.out _ _ ⟨(by first | exact HO.cell 0 rfl _ rfl | exact HO.cell 1 rfl _ rfl | exact HO.cell 2 rfl _ rfl), (by first | exact HO.cell 0 rfl _ rfl | exact HO.cell 1 rfl _ rfl | exact HO.cell 2 rfl _ rfl), (by first | exact HO.cell 0 rfl _ rfl | exact HO.cell 1 rfl _ rfl | exact HO.cell 2 rfl _ rfl), (by first | exact HO.cell 0 rfl _ rfl | exact HO.cell 1 rfl _ rfl | exact HO.cell 2 rfl _ rfl), (by first | exact HO.cell 0 rfl _ rfl | exact HO.cell 1 rfl _ rfl | exact HO.cell 2 rfl _ rfl)⟩ (fun hHeld => ?_)
  clear hK K
  refine norm_ (a' := ?_) ?_ ?_
  rotate_left
  · show Act.put _ (some 19) _ = _
    simp only [Act.put, List.setIfInBounds_toArray, List.set_cons_zero, List.set_cons_succ, i64_w, i32_w]
    rfl
  refine pure_ (i := 6) (N := some 20) (v := ?_) (a' := ?_) #[true, true, true, true, true, true, true, false, false] rfl rfl (by kernel_rfl) (fun _ _ _ h => h) (Or.inl ⟨by rfl, ?_⟩) ?_ ?_
  rotate_left
  · intro w'
    go_simp
    with_reducible rfl
  rotate_left
  · simp only [Act.put, List.setIfInBounds_toArray, List.set_cons_zero, List.set_cons_succ, i64_w, i32_w]
    rfl
  refine pure_ (i := 7) (N := some 21) (v := ?_) (a' := ?_) #[true, true, true, true, true, true, true, true, false] rfl rfl (by kernel_rfl) (fun _ _ _ h => h) (Or.inl ⟨by rfl, ?_⟩) ?_ ?_
  rotate_left
  · intro w'
    go_simp
    with_reducible rfl
  rotate_left
  · simp only [Act.put, List.setIfInBounds_toArray, List.set_cons_zero, List.set_cons_succ, i64_w, i32_w]
    rfl
  refine last_ (i := 8) (N := none) #[true, true, true, true, true, true, true, true, true] rfl rfl (by kernel_rfl) (by decide) (fun K hK => ?_)
  first | refine st_storeInt 0 2 rfl rfl rfl rfl HO rfl rfl (by simp) (by kernel_rfl) ?_ | refine st_storeInt 1 2 rfl rfl rfl rfl HO rfl rfl (by simp) (by kernel_rfl) ?_ | refine st_storeInt 2 2 rfl rfl rfl rfl HO rfl rfl (by simp) (by kernel_rfl) ?_
  clear HO
  intro ws HO
  try simp only [List.set_cons_zero, List.set_cons_succ] at HO
  refine hK.out _ _ ?_
  clear hK K
  refine done_ (by kernel_rfl) ?_
  clear hwr
  go_wp2_with (fail)
  refine start_ (n := 6) (S := fun w' => w'.cell? ⟨gb, 0, none⟩ = some (.int .i64 b) ∧ w'.cell? ⟨gb, 1, none⟩ = some (.int .i64 f) ∧ w'.cell? ⟨gb, 2, none⟩ = some (.int .i64 m) ∧ w'.cell? ⟨gb, 3, none⟩ = some (.int .i64 (r + 1)) ∧ w'.cell? ⟨gb, 4, none⟩ = some (.int .i64 (Rt.held now + Rt.dbl f m ((r + 1).toNat - 1)))) (ds := []) #[false, false, false, false, false, false] (by kernel_rfl) rfl rfl ⟨(by first | exact HO.drew.cell 0 rfl _ rfl | exact HO.drew.cell 1 rfl _ rfl | exact HO.drew.cell 2 rfl _ rfl), (by first | exact HO.drew.cell 0 rfl _ rfl | exact HO.drew.cell 1 rfl _ rfl | exact HO.drew.cell 2 rfl _ rfl), (by first | exact HO.drew.cell 0 rfl _ rfl | exact HO.drew.cell 1 rfl _ rfl | exact HO.drew.cell 2 rfl _ rfl), (by first | exact HO.drew.cell 0 rfl _ rfl | exact HO.drew.cell 1 rfl _ rfl | exact HO.drew.cell 2 rfl _ rfl), (by first | exact HO.drew.cell 0 rfl _ rfl | exact HO.drew.cell 1 rfl _ rfl | exact HO.drew.cell 2 rfl _ rfl)⟩ (fun hHeld => ?_)
  replace HO := HO.drew
  refine pure_ (i := 1) (N := some 23) (v := ?_) (a' := ?_) #[false, true, false, false, false, false] rfl rfl (by kernel_rfl) (fun _ _ _ h => h) (Or.inl ⟨by rfl, ?_⟩) ?_ ?_
  rotate_left
  · intro w'
    go_simp
    with_reducible rfl
  rotate_left
  · simp only [Act.put, List.setIfInBounds_toArray, List.set_cons_zero, List.set_cons_succ, i64_w, i32_w]
    rfl
  refine take_ (i := 0) (N := some 22) (v := ?_) (a' := ?_) #[true, true, false, false, false, false] rfl rfl (by kernel_rfl) (fun _ _ _ h => h) (Or.inl ⟨by rfl, ?_⟩) hHeld ?_ ?_
  rotate_left
  · rintro w' ⟨s0, s1, s2, s3, s4⟩
    go_simp
    with_reducible rfl
  rotate_left
  · simp only [Act.put, List.setIfInBounds_toArray, List.set_cons_zero, List.set_cons_succ, i64_w, i32_w]
    rfl
  refine take_ (i := 2) (N := some 24) (v := ?_) (a' := ?_) #[true, true, true, false, false, false] rfl rfl (by kernel_rfl) (fun _ _ _ h => h) (Or.inl ⟨by rfl, ?_⟩) hHeld ?_ ?_
  rotate_left
  · rintro w' ⟨s0, s1, s2, s3, s4⟩
    go_simp
    with_reducible rfl
  rotate_left
  · simp only [Act.put, List.setIfInBounds_toArray, List.set_cons_zero, List.set_cons_succ, i64_w, i32_w]
    rfl
  refine one_ (i := 3) (N := none) #[true, true, true, true, false, false] rfl rfl (by kernel_rfl) (by decide) (fun K hK => ?_)
  first | refine st_storeAgg 0 30 rfl rfl rfl rfl HO rfl rfl rfl rfl (by kernel_rfl) ?_ | refine st_storeAgg 1 30 rfl rfl rfl rfl HO rfl rfl rfl rfl (by kernel_rfl) ?_ | refine st_storeAgg 2 30 rfl rfl rfl rfl HO rfl rfl rfl rfl (by kernel_rfl) ?_
  clear HO
  intro ws HO
  try simp only [List.set_cons_zero, List.set_cons_succ] at HO
  refine hK.out _ _ ⟨(by first | exact HO.cell 0 rfl _ rfl | exact HO.cell 1 rfl _ rfl | exact HO.cell 2 rfl _ rfl), (by first | exact HO.cell 0 rfl _ rfl | exact HO.cell 1 rfl _ rfl | exact HO.cell 2 rfl _ rfl), (by first | exact HO.cell 0 rfl _ rfl | exact HO.cell 1 rfl _ rfl | exact HO.cell 2 rfl _ rfl), (by first | exact HO.cell 0 rfl _ rfl | exact HO.cell 1 rfl _ rfl | exact HO.cell 2 rfl _ rfl), (by first | exact HO.cell 0 rfl _ rfl | exact HO.cell 1 rfl _ rfl | exact HO.cell 2 rfl _ rfl)⟩ (fun hHeld => ?_)
  clear hK K
  refine pure_ (i := 4) (N := some 5) (v := ?_) (a' := ?_) #[true, true, true, true, true, false] rfl rfl (by kernel_rfl) (fun _ _ _ h => h) (Or.inl ⟨by rfl, ?_⟩) ?_ ?_
  rotate_left
  · intro w'
    go_simp
    with_reducible rfl
  rotate_left
  · simp only [Act.put, List.setIfInBounds_toArray, List.set_cons_zero, List.set_cons_succ, i64_w, i32_w]
    rfl
  refine pure_ (i := 5) (N := some 6) (v := ?_) (a' := ?_) #[true, true, true, true, true, true] rfl rfl (by kernel_rfl) (fun _ _ _ h => h) (Or.inl ⟨by rfl, ?_⟩) ?_ ?_
  rotate_left
  · intro w'
    go_simp
    with_reducible rfl
  rotate_left
  · simp only [Act.put, List.setIfInBounds_toArray, List.set_cons_zero, List.set_cons_succ, i64_w, i32_w]
    rfl
  refine done_ (by kernel_rfl) ?_
  go_wp2_with (fail)
  refine bodyPost_ret (v := .tuple #[rtim b f m (r + 1) (Rt.held now + Rt.dbl f m ((r + 1).toNat - 1)), .int .i64 (Rt.held now + Rt.dbl f m ((r + 1).toNat - 1)), .bool true]) ?_ rfl ⟨rfl, HO.below⟩
  simp [results, Try.results12, asAddr, HO.loadWhole (P := Try.prog) 0 rfl 30 5 rfl (by kernel_rfl) (by kernel_rfl) (by kernel_rfl)]
set_option maxHeartbeats 2000000 in
theorem RReady_any (b f m r nx now : Int) (w : World) :
    Calls Try.prog 16 #[rtim b f m r nx, .int .i64 now] w fun e w' => e = .returned (.bool (Rt.may b r nx now)) ∧ Below w.heap.size w w' := by
  have HO := Own.nil w
  by_cases h : r ≤ b
  · have e1 : Rt.may b r nx now = decide (nx ≤ Rt.held now) := by unfold Rt.may; simp [h]
    have H := Lib.hid e1
    clear e1
    have hd : decide (b < r) = false := by simp; omega
    clear h
    go_enter Try.func16, Try.ntmps16
    go_wp2_with (first | (refine li_boxAgg 30 rfl rfl rfl HO ?_; clear HO; intro gb wb HO) | ((with_reducible refine gate_load 30 rfl ?_); first | (refine li_loadWhole 0 30 5 rfl rfl rfl HO rfl rfl (by kernel_rfl) (by kernel_rfl) (by kernel_rfl) ?_) | (refine li_loadWhole 1 30 5 rfl rfl rfl HO rfl rfl (by kernel_rfl) (by kernel_rfl) (by kernel_rfl) ?_)) | ((with_reducible refine gate_load 2 rfl ?_); first | (refine li_load 0 2 rfl rfl rfl HO rfl rfl (by kernel_rfl) ?_) | (refine li_load 1 2 rfl rfl rfl HO rfl rfl (by kernel_rfl) ?_)) | (go_at_call 26; refine (Over_any _ _ _ _ _ _).mono ?_; rintro e w1 ⟨rfl, hb⟩; replace HO := HO.next hb; clear hb))
    refine start_ (n := 11) (S := fun w' => w'.cell? ⟨gb, 0, none⟩ = some (.int .i64 b) ∧ w'.cell? ⟨gb, 1, none⟩ = some (.int .i64 f) ∧ w'.cell? ⟨gb, 2, none⟩ = some (.int .i64 m) ∧ w'.cell? ⟨gb, 3, none⟩ = some (.int .i64 r) ∧ w'.cell? ⟨gb, 4, none⟩ = some (.int .i64 nx)) (ds := []) #[false, false, false, false, false, false, false, false, false, false, false] (by kernel_rfl) rfl rfl ⟨(by first | exact HO.drew.cell 0 rfl _ rfl | exact HO.drew.cell 1 rfl _ rfl | exact HO.drew.cell 2 rfl _ rfl), (by first | exact HO.drew.cell 0 rfl _ rfl | exact HO.drew.cell 1 rfl _ rfl | exact HO.drew.cell 2 rfl _ rfl), (by first | exact HO.drew.cell 0 rfl _ rfl | exact HO.drew.cell 1 rfl _ rfl | exact HO.drew.cell 2 rfl _ rfl), (by first | exact HO.drew.cell 0 rfl _ rfl | exact HO.drew.cell 1 rfl _ rfl | exact HO.drew.cell 2 rfl _ rfl), (by first | exact HO.drew.cell 0 rfl _ rfl | exact HO.drew.cell 1 rfl _ rfl | exact HO.drew.cell 2 rfl _ rfl)⟩ (fun hHeld => ?_)
    replace HO := HO.drew
    refine take_ (i := 0) (N := some 5) (v := ?_) (a' := ?_) #[true, false, false, false, false, false, false, false, false, false, false] rfl rfl (by kernel_rfl) (fun _ _ _ h => h) (Or.inl ⟨by rfl, ?_⟩) hHeld ?_ ?_
    rotate_left
    · rintro w' ⟨s0, s1, s2, s3, s4⟩
      go_simp
      with_reducible rfl
    rotate_left
    · simp only [Act.put, List.setIfInBounds_toArray, List.set_cons_zero, List.set_cons_succ, i64_w, i32_w]
      rfl
    refine one_ (i := 1) (N := some 6) #[true, true, false, false, false, false, false, false, false, false, false] rfl rfl (by kernel_rfl) (by decide) (fun K hK => ?_)
    refine goes_ Try.func26 (by kernel_rfl) rfl #[rtim b f m r nx] (by rfl) rfl rfl (by simp only [List.map_toArray, List.map_cons, List.map_nil]; rfl) ?_
    with_reducible refine (Over_any b f m r nx _).mono ?_
    rintro e w1 ⟨rfl, hb⟩
    refine ⟨_, rfl, ?_⟩
    replace HO := HO.next hb
    clear hb
    refine hK.out _ _ ⟨(by first | exact HO.cell 0 rfl _ rfl | exact HO.cell 1 rfl _ rfl | exact HO.cell 2 rfl _ rfl), (by first | exact HO.cell 0 rfl _ rfl | exact HO.cell 1 rfl _ rfl | exact HO.cell 2 rfl _ rfl), (by first | exact HO.cell 0 rfl _ rfl | exact HO.cell 1 rfl _ rfl | exact HO.cell 2 rfl _ rfl), (by first | exact HO.cell 0 rfl _ rfl | exact HO.cell 1 rfl _ rfl | exact HO.cell 2 rfl _ rfl), (by first | exact HO.cell 0 rfl _ rfl | exact HO.cell 1 rfl _ rfl | exact HO.cell 2 rfl _ rfl)⟩ (fun hHeld => ?_)
    clear hK K
    refine norm_ (a' := ?_) ?_ ?_
    rotate_left
    · show Act.put _ (some 6) _ = _
      simp only [Act.put, List.setIfInBounds_toArray, List.set_cons_zero, List.set_cons_succ, i64_w, i32_w]
      rfl
    refine pure_ (i := 2) (N := some 7) (v := ?_) (a' := ?_) #[true, true, true, false, false, false, false, false, false, false, false] rfl rfl (by kernel_rfl) (fun _ _ _ h => h) (Or.inl ⟨by rfl, ?_⟩) ?_ ?_
    rotate_left
    · intro w'
      go_simp
      with_reducible rfl
    rotate_left
    · simp only [Act.put, List.setIfInBounds_toArray, List.set_cons_zero, List.set_cons_succ, i64_w, i32_w]
      rfl
    refine pure_ (i := 3) (N := some 8) (v := ?_) (a' := ?_) #[true, true, true, true, false, false, false, false, false, false, false] rfl rfl (by kernel_rfl) (fun _ _ _ h => h) (Or.inl ⟨by rfl, ?_⟩) ?_ ?_
    rotate_left
    · intro w'
      go_simp
      with_reducible rfl
    rotate_left
    · simp only [Act.put, List.setIfInBounds_toArray, List.set_cons_zero, List.set_cons_succ, i64_w, i32_w]
      rfl
    refine pure_ (i := 4) (N := some 9) (v := ?_) (a' := ?_) #[true, true, true, true, true, false, false, false, false, false, false] rfl rfl (by kernel_rfl) (fun _ _ _ h => h) (Or.inl ⟨by rfl, ?_⟩) ?_ ?_
    rotate_left
    · intro w'
      go_simp
      with_reducible rfl
    rotate_left
    · simp only [Act.put, List.setIfInBounds_toArray, List.set_cons_zero, List.set_cons_succ, i64_w, i32_w]
      rfl
    refine pure_ (i := 6) (N := some 11) (v := ?_) (a' := ?_) #[true, true, true, true, true, false, true, false, false, false, false] rfl rfl (by kernel_rfl) (fun _ _ _ h => h) (Or.inl ⟨by rfl, ?_⟩) ?_ ?_
    rotate_left
    · intro w'
      go_simp
      with_reducible rfl
    rotate_left
    · simp only [Act.put, List.setIfInBounds_toArray, List.set_cons_zero, List.set_cons_succ, i64_w, i32_w]
      rfl
    refine take_ (i := 7) (N := some 12) (v := ?_) (a' := ?_) #[true, true, true, true, true, false, true, true, false, false, false] rfl rfl (by kernel_rfl) (fun _ _ _ h => h) (Or.inl ⟨by rfl, ?_⟩) hHeld ?_ ?_
    rotate_left
    · rintro w' ⟨s0, s1, s2, s3, s4⟩
      go_simp
      with_reducible rfl
    rotate_left
    · simp only [Act.put, List.setIfInBounds_toArray, List.set_cons_zero, List.set_cons_succ, i64_w, i32_w]
      rfl
    refine one_ (i := 5) (N := some 10) #[true, true, true, true, true, true, true, true, false, false, false] rfl rfl (by kernel_rfl) (by decide) (fun K hK => ?_)
    refine goes_ Try.func27 (by kernel_rfl) rfl #[.int .i64 now] (by rfl) rfl rfl (by simp only [List.map_toArray, List.map_cons, List.map_nil]; rfl) ?_
    with_reducible refine (Tick_any _ _).mono ?_
    rintro e w1 ⟨rfl, rfl⟩
    refine ⟨_, rfl, ?_⟩
    refine hK.out _ _ ⟨(by first | exact HO.cell 0 rfl _ rfl | exact HO.cell 1 rfl _ rfl | exact HO.cell 2 rfl _ rfl), (by first | exact HO.cell 0 rfl _ rfl | exact HO.cell 1 rfl _ rfl | exact HO.cell 2 rfl _ rfl), (by first | exact HO.cell 0 rfl _ rfl | exact HO.cell 1 rfl _ rfl | exact HO.cell 2 rfl _ rfl), (by first | exact HO.cell 0 rfl _ rfl | exact HO.cell 1 rfl _ rfl | exact HO.cell 2 rfl _ rfl), (by first | exact HO.cell 0 rfl _ rfl | exact HO.cell 1 rfl _ rfl | exact HO.cell 2 rfl _ rfl)⟩ (fun hHeld => ?_)
    clear hK K
    refine norm_ (a' := ?_) ?_ ?_
    rotate_left
    · show Act.put _ (some 10) _ = _
      simp only [Act.put, List.setIfInBounds_toArray, List.set_cons_zero, List.set_cons_succ, i64_w, i32_w]
      rfl
    refine pure_ (i := 8) (N := some 13) (v := ?_) (a' := ?_) #[true, true, true, true, true, true, true, true, true, false, false] rfl rfl (by kernel_rfl) (fun _ _ _ h => h) (Or.inl ⟨by rfl, ?_⟩) ?_ ?_
    rotate_left
    · intro w'
      go_simp
      with_reducible rfl
    rotate_left
    · simp only [Act.put, List.setIfInBounds_toArray, List.set_cons_zero, List.set_cons_succ, i64_w, i32_w]
      rfl
    refine pure_ (i := 9) (N := some 14) (v := ?_) (a' := ?_) #[true, true, true, true, true, true, true, true, true, true, false] rfl rfl (by kernel_rfl) (fun _ _ _ h => h) (Or.inl ⟨by rfl, ?_⟩) ?_ ?_
    rotate_left
    · intro w'
      go_simp
      with_reducible rfl
    rotate_left
    · simp only [Act.put, List.setIfInBounds_toArray, List.set_cons_zero, List.set_cons_succ, i64_w, i32_w]
      rfl
    refine pure_ (i := 10) (N := some 4) (v := ?_) (a' := ?_) #[true, true, true, true, true, true, true, true, true, true, true] rfl rfl (by kernel_rfl) (fun _ _ _ h => h) (Or.inl ⟨by rfl, ?_⟩) ?_ ?_
    rotate_left
    · intro w'
      go_simp
      with_reducible rfl
    rotate_left
    · simp only [Act.put, List.setIfInBounds_toArray, List.set_cons_zero, List.set_cons_succ, i64_w, i32_w]
      rfl
    refine done_ (by kernel_rfl) ?_
    go_wp2_with (fail)
    go_ret
    exact ⟨ret_b (by rw [H.out]), HO.below⟩
  · have e1 : Rt.may b r nx now = false := by unfold Rt.may; simp; omega
    have H := Lib.hid e1
    clear e1
    have hd : decide (b < r) = true := by simp; omega
    clear h
    go_enter Try.func16, Try.ntmps16
    go_wp2_with (first | (refine li_boxAgg 30 rfl rfl rfl HO ?_; clear HO; intro gb wb HO) | ((with_reducible refine gate_load 30 rfl ?_); first | (refine li_loadWhole 0 30 5 rfl rfl rfl HO rfl rfl (by kernel_rfl) (by kernel_rfl) (by kernel_rfl) ?_) | (refine li_loadWhole 1 30 5 rfl rfl rfl HO rfl rfl (by kernel_rfl) (by kernel_rfl) (by kernel_rfl) ?_)) | ((with_reducible refine gate_load 2 rfl ?_); first | (refine li_load 0 2 rfl rfl rfl HO rfl rfl (by kernel_rfl) ?_) | (refine li_load 1 2 rfl rfl rfl HO rfl rfl (by kernel_rfl) ?_)) | (go_at_call 26; refine (Over_any _ _ _ _ _ _).mono ?_; rintro e w1 ⟨rfl, hb⟩; replace HO := HO.next hb; clear hb))
    refine start_ (n := 11) (S := fun w' => w'.cell? ⟨gb, 0, none⟩ = some (.int .i64 b) ∧ w'.cell? ⟨gb, 1, none⟩ = some (.int .i64 f) ∧ w'.cell? ⟨gb, 2, none⟩ = some (.int .i64 m) ∧ w'.cell? ⟨gb, 3, none⟩ = some (.int .i64 r) ∧ w'.cell? ⟨gb, 4, none⟩ = some (.int .i64 nx)) (ds := []) #[false, false, false, false, false, false, false, false, false, false, false] (by kernel_rfl) rfl rfl ⟨(by first | exact HO.drew.cell 0 rfl _ rfl | exact HO.drew.cell 1 rfl _ rfl | exact HO.drew.cell 2 rfl _ rfl), (by first | exact HO.drew.cell 0 rfl _ rfl | exact HO.drew.cell 1 rfl _ rfl | exact HO.drew.cell 2 rfl _ rfl), (by first | exact HO.drew.cell 0 rfl _ rfl | exact HO.drew.cell 1 rfl _ rfl | exact HO.drew.cell 2 rfl _ rfl), (by first | exact HO.drew.cell 0 rfl _ rfl | exact HO.drew.cell 1 rfl _ rfl | exact HO.drew.cell 2 rfl _ rfl), (by first | exact HO.drew.cell 0 rfl _ rfl | exact HO.drew.cell 1 rfl _ rfl | exact HO.drew.cell 2 rfl _ rfl)⟩ (fun hHeld => ?_)
    replace HO := HO.drew
    refine take_ (i := 0) (N := some 5) (v := ?_) (a' := ?_) #[true, false, false, false, false, false, false, false, false, false, false] rfl rfl (by kernel_rfl) (fun _ _ _ h => h) (Or.inl ⟨by rfl, ?_⟩) hHeld ?_ ?_
    rotate_left
    · rintro w' ⟨s0, s1, s2, s3, s4⟩
      go_simp
      with_reducible rfl
    rotate_left
    · simp only [Act.put, List.setIfInBounds_toArray, List.set_cons_zero, List.set_cons_succ, i64_w, i32_w]
      rfl
    refine one_ (i := 1) (N := some 6) #[true, true, false, false, false, false, false, false, false, false, false] rfl rfl (by kernel_rfl) (by decide) (fun K hK => ?_)
    refine goes_ Try.func26 (by kernel_rfl) rfl #[rtim b f m r nx] (by rfl) rfl rfl (by simp only [List.map_toArray, List.map_cons, List.map_nil]; rfl) ?_
    with_reducible refine (Over_any b f m r nx _).mono ?_
    rintro e w1 ⟨rfl, hb⟩
    refine ⟨_, rfl, ?_⟩
    replace HO := HO.next hb
    clear hb
    refine hK.out _ _ ⟨(by first | exact HO.cell 0 rfl _ rfl | exact HO.cell 1 rfl _ rfl | exact HO.cell 2 rfl _ rfl), (by first | exact HO.cell 0 rfl _ rfl | exact HO.cell 1 rfl _ rfl | exact HO.cell 2 rfl _ rfl), (by first | exact HO.cell 0 rfl _ rfl | exact HO.cell 1 rfl _ rfl | exact HO.cell 2 rfl _ rfl), (by first | exact HO.cell 0 rfl _ rfl | exact HO.cell 1 rfl _ rfl | exact HO.cell 2 rfl _ rfl), (by first | exact HO.cell 0 rfl _ rfl | exact HO.cell 1 rfl _ rfl | exact HO.cell 2 rfl _ rfl)⟩ (fun hHeld => ?_)
    clear hK K
    refine norm_ (a' := ?_) ?_ ?_
    rotate_left
    · show Act.put _ (some 6) _ = _
      simp only [Act.put, List.setIfInBounds_toArray, List.set_cons_zero, List.set_cons_succ, i64_w, i32_w]
      rfl
    refine pure_ (i := 2) (N := some 7) (v := ?_) (a' := ?_) #[true, true, true, false, false, false, false, false, false, false, false] rfl rfl (by kernel_rfl) (fun _ _ _ h => h) (Or.inl ⟨by rfl, ?_⟩) ?_ ?_
    rotate_left
    · intro w'
      go_simp
      with_reducible rfl
    rotate_left
    · simp only [Act.put, List.setIfInBounds_toArray, List.set_cons_zero, List.set_cons_succ, i64_w, i32_w]
      rfl
    refine pure_ (i := 3) (N := some 8) (v := ?_) (a' := ?_) #[true, true, true, true, false, false, false, false, false, false, false] rfl rfl (by kernel_rfl) (fun _ _ _ h => h) (Or.inl ⟨by rfl, ?_⟩) ?_ ?_
    rotate_left
    · intro w'
      go_simp
      with_reducible rfl
    rotate_left
    · simp only [Act.put, List.setIfInBounds_toArray, List.set_cons_zero, List.set_cons_succ, i64_w, i32_w]
      rfl
    refine pure_ (i := 4) (N := some 9) (v := undef) (a' := ?_) #[true, true, true, true, true, false, false, false, false, false, false] rfl rfl (by kernel_rfl) (fun _ _ _ h => h) (Or.inr ⟨by rfl, rfl⟩) ?_ ?_
    rotate_left
    · simp only [Act.put, List.setIfInBounds_toArray, List.set_cons_zero, List.set_cons_succ, i64_w, i32_w]
      rfl
    refine pure_ (i := 5) (N := some 10) (v := undef) (a' := ?_) #[true, true, true, true, true, true, false, false, false, false, false] rfl rfl (by kernel_rfl) (fun _ _ _ h => h) (Or.inr ⟨by rfl, rfl⟩) ?_ ?_
    rotate_left
    · simp only [Act.put, List.setIfInBounds_toArray, List.set_cons_zero, List.set_cons_succ, i64_w, i32_w]
      rfl
    refine pure_ (i := 6) (N := some 11) (v := undef) (a' := ?_) #[true, true, true, true, true, true, true, false, false, false, false] rfl rfl (by kernel_rfl) (fun _ _ _ h => h) (Or.inr ⟨by rfl, rfl⟩) ?_ ?_
    rotate_left
    · simp only [Act.put, List.setIfInBounds_toArray, List.set_cons_zero, List.set_cons_succ, i64_w, i32_w]
      rfl
    refine pure_ (i := 7) (N := some 12) (v := undef) (a' := ?_) #[true, true, true, true, true, true, true, true, false, false, false] rfl rfl (by kernel_rfl) (fun _ _ _ h => h) (Or.inr ⟨by rfl, rfl⟩) ?_ ?_
    rotate_left
    · simp only [Act.put, List.setIfInBounds_toArray, List.set_cons_zero, List.set_cons_succ, i64_w, i32_w]
      rfl
    refine pure_ (i := 8) (N := some 13) (v := undef) (a' := ?_) #[true, true, true, true, true, true, true, true, true, false, false] rfl rfl (by kernel_rfl) (fun _ _ _ h => h) (Or.inr ⟨by rfl, rfl⟩) ?_ ?_
    rotate_left
    · simp only [Act.put, List.setIfInBounds_toArray, List.set_cons_zero, List.set_cons_succ, i64_w, i32_w]
      rfl
    refine pure_ (i := 9) (N := some 14) (v := ?_) (a' := ?_) #[true, true, true, true, true, true, true, true, true, true, false] rfl rfl (by kernel_rfl) (fun _ _ _ h => h) (Or.inl ⟨by rfl, ?_⟩) ?_ ?_
    rotate_left
    · intro w'
      go_simp
      with_reducible rfl
    rotate_left
    · simp only [Act.put, List.setIfInBounds_toArray, List.set_cons_zero, List.set_cons_succ, i64_w, i32_w]
      rfl
    refine pure_ (i := 10) (N := some 4) (v := ?_) (a' := ?_) #[true, true, true, true, true, true, true, true, true, true, true] rfl rfl (by kernel_rfl) (fun _ _ _ h => h) (Or.inl ⟨by rfl, ?_⟩) ?_ ?_
    rotate_left
    · intro w'
      go_simp
      with_reducible rfl
    rotate_left
    · simp only [Act.put, List.setIfInBounds_toArray, List.set_cons_zero, List.set_cons_succ, i64_w, i32_w]
      rfl
    refine done_ (by kernel_rfl) ?_
    go_wp2_with (fail)
    go_ret
    exact ⟨ret_b (by rw [H.out]), HO.below⟩
end Go.Proofs.Ytmpoidkgjnkjcaa

/- What the law on timers computes. -/
import Derived.Test.YtmpoidkgjnkjcaaRh
import Derived.Test.YtmpoidkgjnkjcaaG
namespace Go.Proofs.Ytmpoidkgjnkjcaa
set_option linter.unusedVariables false
set_option linter.unusedSimpArgs false
set_option linter.unnecessarySimpa false
open Go.RowKit Go.Proofs.YtmpoidkgjnkjcaaW.PrintLast
def actRow (p : Int × Int) : List Value := [.int .i64 p.1, .int .i64 p.2]
set_option maxRecDepth 20000 in
set_option maxHeartbeats 16000000 in
theorem RetryTimes_any (fl r0 r1 : Int) (l : Value) (acts : List (Int × Int)) (w : World) (b1 : 0 ≤ fl) (b2 : fl ≤ 255) (hl : ArgS w 2 l (acts.map actRow)) :
    Calls Try.prog 3 #[.int .u8 fl, .agg #[.int .i64 r0, .int .i64 r1], l] w fun e w' => e = .returned (.bool true) ∧ Below w.heap.size w w' := by
  have HO := Own.nil w
  obtain ⟨ao, cap, rfl, hlc, hcm, hrd⟩ := hl
  simp only [List.length_map] at hlc ⊢
  have hml : maxLen = 9223372036854775807 := rfl
  have hw1 : IntKind.i64.wrap fl = fl := IntWalk.i64_in _ (by omega)
  obtain ⟨len, hlen⟩ : ∃ len, acts.length = len := ⟨_, rfl⟩
  rw [hlen] at hlc ⊢
  by_cases hbig : 200 < len
  · have hd : decide ((200 : Int) < (len : Int)) = true := decide_eq_true (by omega)
    go_enter Try.func3, Try.ntmps3
    go_wp2_with (first | (refine li_boxAgg 22 rfl rfl rfl HO ?_; clear HO; intro gb wb HO) | ((with_reducible refine gate_load 2 rfl ?_); first | (refine li_load 0 2 rfl rfl rfl HO rfl rfl (by kernel_rfl) ?_)) | (refine li_alloc (t := 30) rfl rfl (z := .agg #[.int .i64 0, .int .i64 0, .int .i64 0, .int .i64 0, .int .i64 0]) (cs := [.int .i64 0, .int .i64 0, .int .i64 0, .int .i64 0, .int .i64 0]) (by kernel_rfl) rfl HO ?_; clear HO; intro ga wa HO) | ((with_reducible refine gate_store 30 rfl ?_); first | (refine li_storeAgg 0 30 rfl rfl rfl rfl HO rfl rfl rfl rfl (by kernel_rfl) ?_; clear HO; intro ws HO; (try simp only [List.set_cons_zero, List.set_cons_succ] at HO))) | ((with_reducible refine gate_load 34 rfl ?_); first | (refine li_loadWhole 0 34 2 rfl rfl rfl HO rfl rfl (by kernel_rfl) (by kernel_rfl) (by kernel_rfl) ?_)) | (refine li_alloc (t := 34) rfl rfl (z := .agg #[.int .i64 0, .int .i64 0]) (cs := [.int .i64 0, .int .i64 0]) (by kernel_rfl) rfl HO ?_; clear HO; intro ga wa HO) | ((with_reducible refine gate_store 34 rfl ?_); first | (refine li_storeAgg 0 34 rfl rfl rfl rfl HO rfl rfl rfl rfl (by kernel_rfl) ?_; clear HO; intro ws HO; (try simp only [List.set_cons_zero, List.set_cons_succ] at HO))) | ((with_reducible refine gate_load 3 rfl ?_); first | (refine li_load 0 3 rfl rfl rfl HO rfl rfl (by kernel_rfl) ?_)) | ((with_reducible refine gate_load 30 rfl ?_); first | (refine li_loadWhole 0 30 5 rfl rfl rfl HO rfl rfl (by kernel_rfl) (by kernel_rfl) (by kernel_rfl) ?_)) | (go_at_call 8; refine (alive_O HO).mono ?_; rintro e w1 ⟨rfl, HO1⟩; clear HO; have HO := HO1; clear HO1))
    go_ret
    exact ⟨rfl, HO.below⟩
  · have hd : decide ((200 : Int) < (len : Int)) = false := decide_eq_false (by omega)
    rcases Bool.eq_false_or_eq_true (Rt.ok fl r0 r1) with hok | hno
    rotate_left
    · have H := Lib.hid hno
      clear hno
      go_enter Try.func3, Try.ntmps3
      go_wp2_with (first | (refine li_boxAgg 22 rfl rfl rfl HO ?_; clear HO; intro gb wb HO) | ((with_reducible refine gate_load 2 rfl ?_); first | (refine li_load 0 2 rfl rfl rfl HO rfl rfl (by kernel_rfl) ?_) | (refine li_load 1 2 rfl rfl rfl HO rfl rfl (by kernel_rfl) ?_)) | (refine li_alloc (t := 30) rfl rfl (z := .agg #[.int .i64 0, .int .i64 0, .int .i64 0, .int .i64 0, .int .i64 0]) (cs := [.int .i64 0, .int .i64 0, .int .i64 0, .int .i64 0, .int .i64 0]) (by kernel_rfl) rfl HO ?_; clear HO; intro ga wa HO) | ((with_reducible refine gate_store 30 rfl ?_); first | (refine li_storeAgg 0 30 rfl rfl rfl rfl HO rfl rfl rfl rfl (by kernel_rfl) ?_; clear HO; intro ws HO; (try simp only [List.set_cons_zero, List.set_cons_succ] at HO)) | (refine li_storeAgg 1 30 rfl rfl rfl rfl HO rfl rfl rfl rfl (by kernel_rfl) ?_; clear HO; intro ws HO; (try simp only [List.set_cons_zero, List.set_cons_succ] at HO))) | ((with_reducible refine gate_load 34 rfl ?_); first | (refine li_loadWhole 0 34 2 rfl rfl rfl HO rfl rfl (by kernel_rfl) (by kernel_rfl) (by kernel_rfl) ?_) | (refine li_loadWhole 1 34 2 rfl rfl rfl HO rfl rfl (by kernel_rfl) (by kernel_rfl) (by kernel_rfl) ?_)) | (refine li_alloc (t := 34) rfl rfl (z := .agg #[.int .i64 0, .int .i64 0]) (cs := [.int .i64 0, .int .i64 0]) (by kernel_rfl) rfl HO ?_; clear HO; intro ga wa HO) | ((with_reducible refine gate_store 34 rfl ?_); first | (refine li_storeAgg 0 34 rfl rfl rfl rfl HO rfl rfl rfl rfl (by kernel_rfl) ?_; clear HO; intro ws HO; (try simp only [List.set_cons_zero, List.set_cons_succ] at HO)) | (refine li_storeAgg 1 34 rfl rfl rfl rfl HO rfl rfl rfl rfl (by kernel_rfl) ?_; clear HO; intro ws HO; (try simp only [List.set_cons_zero, List.set_cons_succ] at HO))) | ((with_reducible refine gate_load 3 rfl ?_); first | (refine li_load 0 3 rfl rfl rfl HO rfl rfl (by kernel_rfl) ?_) | (refine li_load 1 3 rfl rfl rfl HO rfl rfl (by kernel_rfl) ?_)) | ((with_reducible refine gate_load 30 rfl ?_); first | (refine li_loadWhole 0 30 5 rfl rfl rfl HO rfl rfl (by kernel_rfl) (by kernel_rfl) (by kernel_rfl) ?_) | (refine li_loadWhole 1 30 5 rfl rfl rfl HO rfl rfl (by kernel_rfl) (by kernel_rfl) (by kernel_rfl) ?_)) | (go_at_call 8; refine (alive_O HO).mono ?_; rintro e w1 ⟨rfl, HO1⟩; clear HO; have HO := HO1; clear HO1) | (go_at_call 9; refine (New_no _ _ _ _ H.out).mono ?_; rintro e w1 ⟨rfl, rfl⟩) | (go_at_call 10; refine (RNew_no _ _ _ _ H.out).mono ?_; rintro e w1 ⟨rfl, hb⟩; replace HO := HO.next hb; clear hb))
      go_ret
      exact ⟨rfl, HO.below⟩
    · obtain ⟨k1, k2, k3, k4, k5, k6, k7⟩ : 0 ≤ fl ∧ fl ≤ 1000 ∧ 1 ≤ r0 ∧ r0 ≤ 1099511627776 ∧ 1 ≤ r1 ∧ r1 ≤ 1099511627776 ∧ r0 ≤ r1 := by unfold Rt.ok Rt.rests at hok; simp at hok; omega
      have H := Lib.hid hok
      clear hok
      go_enter Try.func3, Try.ntmps3
      go_wp2_with (first | (refine li_boxAgg 22 rfl rfl rfl HO ?_; clear HO; intro gb wb HO) | ((with_reducible refine gate_load 2 rfl ?_); first | (refine li_load 0 2 rfl rfl rfl HO rfl rfl (by kernel_rfl) ?_) | (refine li_load 1 2 rfl rfl rfl HO rfl rfl (by kernel_rfl) ?_)) | (refine li_alloc (t := 30) rfl rfl (z := .agg #[.int .i64 0, .int .i64 0, .int .i64 0, .int .i64 0, .int .i64 0]) (cs := [.int .i64 0, .int .i64 0, .int .i64 0, .int .i64 0, .int .i64 0]) (by kernel_rfl) rfl HO ?_; clear HO; intro ga wa HO) | ((with_reducible refine gate_store 30 rfl ?_); first | (refine li_storeAgg 0 30 rfl rfl rfl rfl HO rfl rfl rfl rfl (by kernel_rfl) ?_; clear HO; intro ws HO; (try simp only [List.set_cons_zero, List.set_cons_succ] at HO)) | (refine li_storeAgg 1 30 rfl rfl rfl rfl HO rfl rfl rfl rfl (by kernel_rfl) ?_; clear HO; intro ws HO; (try simp only [List.set_cons_zero, List.set_cons_succ] at HO))) | ((with_reducible refine gate_load 34 rfl ?_); first | (refine li_loadWhole 0 34 2 rfl rfl rfl HO rfl rfl (by kernel_rfl) (by kernel_rfl) (by kernel_rfl) ?_) | (refine li_loadWhole 1 34 2 rfl rfl rfl HO rfl rfl (by kernel_rfl) (by kernel_rfl) (by kernel_rfl) ?_)) | (refine li_alloc (t := 34) rfl rfl (z := .agg #[.int .i64 0, .int .i64 0]) (cs := [.int .i64 0, .int .i64 0]) (by kernel_rfl) rfl HO ?_; clear HO; intro ga wa HO) | ((with_reducible refine gate_store 34 rfl ?_); first | (refine li_storeAgg 0 34 rfl rfl rfl rfl HO rfl rfl rfl rfl (by kernel_rfl) ?_; clear HO; intro ws HO; (try simp only [List.set_cons_zero, List.set_cons_succ] at HO)) | (refine li_storeAgg 1 34 rfl rfl rfl rfl HO rfl rfl rfl rfl (by kernel_rfl) ?_; clear HO; intro ws HO; (try simp only [List.set_cons_zero, List.set_cons_succ] at HO))) | ((with_reducible refine gate_load 3 rfl ?_); first | (refine li_load 0 3 rfl rfl rfl HO rfl rfl (by kernel_rfl) ?_) | (refine li_load 1 3 rfl rfl rfl HO rfl rfl (by kernel_rfl) ?_)) | ((with_reducible refine gate_load 30 rfl ?_); first | (refine li_loadWhole 0 30 5 rfl rfl rfl HO rfl rfl (by kernel_rfl) (by kernel_rfl) (by kernel_rfl) ?_) | (refine li_loadWhole 1 30 5 rfl rfl rfl HO rfl rfl (by kernel_rfl) (by kernel_rfl) (by kernel_rfl) ?_)) | (go_at_call 8; refine (alive_O HO).mono ?_; rintro e w1 ⟨rfl, HO1⟩; clear HO; have HO := HO1; clear HO1) | (go_at_call 9; refine (O_New _ _ _ HO H.out).mono ?_; rintro e w1 ⟨gt, rfl, HO1⟩; clear HO; have HO := HO1; clear HO1) | (go_at_call 10; refine (RNew_yes _ _ _ _ H.out).mono ?_; rintro e w1 ⟨rfl, hb⟩; replace HO := HO.next hb; clear hb))
      replace HO : Own w _ [(ga, CellsP 30 (timl fl r0 r1 0 0)), (gt, CellsP 59 (timl fl r0 r1 0 0))] := HO.sub (.cons_cons _ (.cons_cons _ (.cons _ .slnil)))
      replace HO := HO.front 1 rfl
      simp only [List.eraseIdx_cons_succ, List.eraseIdx_cons_zero] at HO
      clear H
      obtain ⟨gm, hgm⟩ : ∃ x, x = ga := ⟨_, rfl⟩
      subst hgm
      go_loopg [57] len (fun k v57 wr => ∃ (i : Nat) (r nx : Int), v57 = .int .i64 (i : Int) ∧ i ≤ len ∧ k = len - i ∧ 0 ≤ r ∧ r ≤ i ∧ Own w wr [(gt, CellsP 59 (timl fl r0 r1 r nx)), (gm, CellsP 30 (timl fl r0 r1 r nx))])
      case atStart => exact ⟨0, 0, 0, rfl, by omega, by omega, by omega, by omega, HO⟩
      case round =>
        clear HO
        obtain ⟨i, r, nx, rfl, i1, hk, r1', r2', HO⟩ := hrel
        have hw2 : IntKind.i64.wrap ((i : Int) + 1) = ((i + 1 : Nat) : Int) := by rw [IntWalk.i64_in _ (by omega)]; rfl
        rcases Nat.lt_or_ge i len with hi | hi
        rotate_left
        · have hd1 : decide ((i : Int) < (len : Int)) = false := decide_eq_false (by omega)
          go_wp2_with (fail)
          go_ret
          exact ⟨rfl, HO.below⟩
        · have hd1 : decide ((i : Int) < (len : Int)) = true := decide_eq_true (by omega)
          have hb1 : (0 : Int) ≤ (i : Int) := by omega
          have hb2 : (i : Int) < (len : Int) := by omega
          obtain ⟨⟨ki, now⟩, hact⟩ : ∃ p, acts[i]? = some p := ⟨_, List.getElem?_eq_getElem (by omega)⟩
          obtain ⟨a, rfl, hcell⟩ := hrd i (actRow (ki, now)) (by simp [hact])
          replace hcell : ∀ (j : Nat) (x : Value), [Value.int .i64 ki, .int .i64 now][j]? = some x → w.cell? ((a.add (i * 2)).add j) = some x := hcell
          have hc0 := hcell 0 (.int .i64 ki) rfl
          have hc1 := hcell 1 (.int .i64 now) rfl
          rcases (by omega : ki = 0 ∧ r + 1 ≤ fl ∨ ki = 0 ∧ fl < r + 1 ∨ ki = 1 ∨ ki ≠ 0 ∧ ki ≠ 1) with ⟨rfl, hcase⟩ | ⟨rfl, hcase⟩ | rfl | ⟨hz1, hz2⟩
          · go_wp2_with (first | (refine li_boxAgg 22 rfl rfl rfl HO ?_; clear HO; intro gb wb HO) | ((with_reducible refine gate_load 2 rfl ?_); first | (refine li_load 0 2 rfl rfl rfl HO rfl rfl (by kernel_rfl) ?_) | (refine li_load 1 2 rfl rfl rfl HO rfl rfl (by kernel_rfl) ?_) | (refine li_load 2 2 rfl rfl rfl HO rfl rfl (by kernel_rfl) ?_) | (refine li_load 3 2 rfl rfl rfl HO rfl rfl (by kernel_rfl) ?_) | (refine li_load 4 2 rfl rfl rfl HO rfl rfl (by kernel_rfl) ?_)) | (refine li_alloc (t := 30) rfl rfl (z := .agg #[.int .i64 0, .int .i64 0, .int .i64 0, .int .i64 0, .int .i64 0]) (cs := [.int .i64 0, .int .i64 0, .int .i64 0, .int .i64 0, .int .i64 0]) (by kernel_rfl) rfl HO ?_; clear HO; intro ga wa HO) | ((with_reducible refine gate_store 30 rfl ?_); first | (refine li_storeAgg 0 30 rfl rfl rfl rfl HO rfl rfl rfl rfl (by kernel_rfl) ?_; clear HO; intro ws HO; (try simp only [List.set_cons_zero, List.set_cons_succ] at HO)) | (refine li_storeAgg 1 30 rfl rfl rfl rfl HO rfl rfl rfl rfl (by kernel_rfl) ?_; clear HO; intro ws HO; (try simp only [List.set_cons_zero, List.set_cons_succ] at HO)) | (refine li_storeAgg 2 30 rfl rfl rfl rfl HO rfl rfl rfl rfl (by kernel_rfl) ?_; clear HO; intro ws HO; (try simp only [List.set_cons_zero, List.set_cons_succ] at HO)) | (refine li_storeAgg 3 30 rfl rfl rfl rfl HO rfl rfl rfl rfl (by kernel_rfl) ?_; clear HO; intro ws HO; (try simp only [List.set_cons_zero, List.set_cons_succ] at HO)) | (refine li_storeAgg 4 30 rfl rfl rfl rfl HO rfl rfl rfl rfl (by kernel_rfl) ?_; clear HO; intro ws HO; (try simp only [List.set_cons_zero, List.set_cons_succ] at HO))) | ((with_reducible refine gate_load 34 rfl ?_); first | (refine li_loadWhole 0 34 2 rfl rfl rfl HO rfl rfl (by kernel_rfl) (by kernel_rfl) (by kernel_rfl) ?_) | (refine li_loadWhole 1 34 2 rfl rfl rfl HO rfl rfl (by kernel_rfl) (by kernel_rfl) (by kernel_rfl) ?_) | (refine li_loadWhole 2 34 2 rfl rfl rfl HO rfl rfl (by kernel_rfl) (by kernel_rfl) (by kernel_rfl) ?_) | (refine li_loadWhole 3 34 2 rfl rfl rfl HO rfl rfl (by kernel_rfl) (by kernel_rfl) (by kernel_rfl) ?_) | (refine li_loadWhole 4 34 2 rfl rfl rfl HO rfl rfl (by kernel_rfl) (by kernel_rfl) (by kernel_rfl) ?_)) | (refine li_alloc (t := 34) rfl rfl (z := .agg #[.int .i64 0, .int .i64 0]) (cs := [.int .i64 0, .int .i64 0]) (by kernel_rfl) rfl HO ?_; clear HO; intro ga wa HO) | ((with_reducible refine gate_store 34 rfl ?_); first | (refine li_storeAgg 0 34 rfl rfl rfl rfl HO rfl rfl rfl rfl (by kernel_rfl) ?_; clear HO; intro ws HO; (try simp only [List.set_cons_zero, List.set_cons_succ] at HO)) | (refine li_storeAgg 1 34 rfl rfl rfl rfl HO rfl rfl rfl rfl (by kernel_rfl) ?_; clear HO; intro ws HO; (try simp only [List.set_cons_zero, List.set_cons_succ] at HO)) | (refine li_storeAgg 2 34 rfl rfl rfl rfl HO rfl rfl rfl rfl (by kernel_rfl) ?_; clear HO; intro ws HO; (try simp only [List.set_cons_zero, List.set_cons_succ] at HO)) | (refine li_storeAgg 3 34 rfl rfl rfl rfl HO rfl rfl rfl rfl (by kernel_rfl) ?_; clear HO; intro ws HO; (try simp only [List.set_cons_zero, List.set_cons_succ] at HO)) | (refine li_storeAgg 4 34 rfl rfl rfl rfl HO rfl rfl rfl rfl (by kernel_rfl) ?_; clear HO; intro ws HO; (try simp only [List.set_cons_zero, List.set_cons_succ] at HO))) | ((with_reducible refine gate_load 3 rfl ?_); first | (refine li_load 0 3 rfl rfl rfl HO rfl rfl (by kernel_rfl) ?_) | (refine li_load 1 3 rfl rfl rfl HO rfl rfl (by kernel_rfl) ?_) | (refine li_load 2 3 rfl rfl rfl HO rfl rfl (by kernel_rfl) ?_) | (refine li_load 3 3 rfl rfl rfl HO rfl rfl (by kernel_rfl) ?_) | (refine li_load 4 3 rfl rfl rfl HO rfl rfl (by kernel_rfl) ?_)) | ((with_reducible refine gate_load 30 rfl ?_); first | (refine li_loadWhole 0 30 5 rfl rfl rfl HO rfl rfl (by kernel_rfl) (by kernel_rfl) (by kernel_rfl) ?_) | (refine li_loadWhole 1 30 5 rfl rfl rfl HO rfl rfl (by kernel_rfl) (by kernel_rfl) (by kernel_rfl) ?_) | (refine li_loadWhole 2 30 5 rfl rfl rfl HO rfl rfl (by kernel_rfl) (by kernel_rfl) (by kernel_rfl) ?_) | (refine li_loadWhole 3 30 5 rfl rfl rfl HO rfl rfl (by kernel_rfl) (by kernel_rfl) (by kernel_rfl) ?_) | (refine li_loadWhole 4 30 5 rfl rfl rfl HO rfl rfl (by kernel_rfl) (by kernel_rfl) (by kernel_rfl) ?_)) | (go_at_call 11; obtain ⟨gv, hgv⟩ : ∃ x, x = ga := ⟨_, rfl⟩; subst hgv; replace HO := HO.front 1 rfl; simp only [List.eraseIdx_cons_succ, List.eraseIdx_cons_zero] at HO; refine (O_Fail_yes fl r0 r1 r nx now HO (by omega) (by omega) (by omega) (by omega) (by omega) (by omega)).mono ?_; rintro e w2 ⟨rfl, HO1⟩; clear HO; have HO := HO1; clear HO1) | (go_at_call 12; refine (RFail_yes fl r0 r1 r nx now _ (by omega) (by omega) (by omega) (by omega) (by omega) (by omega)).mono ?_; rintro e w2 ⟨rfl, hb⟩; replace HO := HO.next hb; clear hb) | (refine li_loadAggAt 34 2 rfl rfl rfl (fun j x hj => HO.old (hcell j x hj)) rfl (by kernel_rfl) (by kernel_rfl) (by kernel_rfl) ?_))
            replace HO := HO.front 1 rfl; simp only [List.eraseIdx_cons_succ, List.eraseIdx_cons_zero] at HO
            obtain ⟨RD, hRD⟩ : ∃ RD, Rt.may fl (r + 1) (Rt.held now + Rt.dbl r0 r1 r.toNat) now = RD := ⟨_, rfl⟩
            have hrr : (RD != RD) = false := by simp
            obtain ⟨LF, hLF⟩ : ∃ LF, max (fl - (r + 1)) 0 = LF := ⟨_, rfl⟩
            have hll : (LF != LF) = false := by simp
            refine start_ (n := 16) (S := fun w' => w'.cell? ⟨gm, 0, none⟩ = some (.int .i64 fl) ∧ w'.cell? ⟨gm, 1, none⟩ = some (.int .i64 r0) ∧ w'.cell? ⟨gm, 2, none⟩ = some (.int .i64 r1) ∧ w'.cell? ⟨gm, 3, none⟩ = some (.int .i64 (r + 1)) ∧ w'.cell? ⟨gm, 4, none⟩ = some (.int .i64 (Rt.held now + Rt.dbl r0 r1 r.toNat)) ∧ w'.cell? ⟨gv, 1, none⟩ = some (.int .i64 now)) (ds := []) #[false, false, false, false, false, false, false, false, false, false, false, false, false, false, false, false] (by kernel_rfl) rfl rfl ⟨(by first | exact HO.drew.cell 0 rfl _ rfl | exact HO.drew.cell 1 rfl _ rfl | exact HO.drew.cell 2 rfl _ rfl | exact HO.drew.cell 3 rfl _ rfl | exact HO.drew.cell 4 rfl _ rfl), (by first | exact HO.drew.cell 0 rfl _ rfl | exact HO.drew.cell 1 rfl _ rfl | exact HO.drew.cell 2 rfl _ rfl | exact HO.drew.cell 3 rfl _ rfl | exact HO.drew.cell 4 rfl _ rfl), (by first | exact HO.drew.cell 0 rfl _ rfl | exact HO.drew.cell 1 rfl _ rfl | exact HO.drew.cell 2 rfl _ rfl | exact HO.drew.cell 3 rfl _ rfl | exact HO.drew.cell 4 rfl _ rfl), (by first | exact HO.drew.cell 0 rfl _ rfl | exact HO.drew.cell 1 rfl _ rfl | exact HO.drew.cell 2 rfl _ rfl | exact HO.drew.cell 3 rfl _ rfl | exact HO.drew.cell 4 rfl _ rfl), (by first | exact HO.drew.cell 0 rfl _ rfl | exact HO.drew.cell 1 rfl _ rfl | exact HO.drew.cell 2 rfl _ rfl | exact HO.drew.cell 3 rfl _ rfl | exact HO.drew.cell 4 rfl _ rfl), (by first | exact HO.drew.cell 0 rfl _ rfl | exact HO.drew.cell 1 rfl _ rfl | exact HO.drew.cell 2 rfl _ rfl | exact HO.drew.cell 3 rfl _ rfl | exact HO.drew.cell 4 rfl _ rfl)⟩ (fun hHeld => ?_)
            replace HO := HO.drew
            refine pure_ (i := 0) (N := some 95) (v := ?_) (a' := ?_) #[true, false, false, false, false, false, false, false, false, false, false, false, false, false, false, false] rfl rfl (by kernel_rfl) (fun _ _ _ h => h) (Or.inl ⟨by rfl, ?_⟩) ?_ ?_
            rotate_left
            · intro w'
              go_simp
              with_reducible rfl
            rotate_left
            · simp only [Act.put, List.setIfInBounds_toArray, List.set_cons_zero, List.set_cons_succ, i64_w, i32_w]
              rfl
            refine pure_ (i := 1) (N := some 96) (v := ?_) (a' := ?_) #[true, true, false, false, false, false, false, false, false, false, false, false, false, false, false, false] rfl rfl (by kernel_rfl) (fun _ _ _ h => h) (Or.inl ⟨by rfl, ?_⟩) ?_ ?_
            rotate_left
            · intro w'
              go_simp
              with_reducible rfl
            rotate_left
            · simp only [Act.put, List.setIfInBounds_toArray, List.set_cons_zero, List.set_cons_succ, i64_w, i32_w]
              rfl
            refine pure_ (i := 5) (N := some 100) (v := ?_) (a' := ?_) #[true, true, false, false, false, true, false, false, false, false, false, false, false, false, false, false] rfl rfl (by kernel_rfl) (fun _ _ _ h => h) (Or.inl ⟨by rfl, ?_⟩) ?_ ?_
            rotate_left
            · intro w'
              go_simp
              with_reducible rfl
            rotate_left
            · simp only [Act.put, List.setIfInBounds_toArray, List.set_cons_zero, List.set_cons_succ, i64_w, i32_w]
              rfl
            refine take_ (i := 2) (N := some 97) (v := ?_) (a' := ?_) #[true, true, true, false, false, true, false, false, false, false, false, false, false, false, false, false] rfl rfl (by kernel_rfl) (fun _ _ _ h => h) (Or.inl ⟨by rfl, ?_⟩) hHeld ?_ ?_
            rotate_left
            · rintro w' ⟨s0, s1, s2, s3, s4, s5⟩
              go_simp
              with_reducible rfl
            rotate_left
            · simp only [Act.put, List.setIfInBounds_toArray, List.set_cons_zero, List.set_cons_succ, i64_w, i32_w]
              rfl
            refine take_ (i := 4) (N := some 99) (v := ?_) (a' := ?_) #[true, true, true, false, true, true, false, false, false, false, false, false, false, false, false, false] rfl rfl (by kernel_rfl) (fun _ _ _ h => h) (Or.inl ⟨by rfl, ?_⟩) hHeld ?_ ?_
            rotate_left
            · rintro w' ⟨s0, s1, s2, s3, s4, s5⟩
              go_simp
              with_reducible rfl
            rotate_left
            · simp only [Act.put, List.setIfInBounds_toArray, List.set_cons_zero, List.set_cons_succ, i64_w, i32_w]
              rfl
            refine take_ (i := 6) (N := some 101) (v := ?_) (a' := ?_) #[true, true, true, false, true, true, true, false, false, false, false, false, false, false, false, false] rfl rfl (by kernel_rfl) (fun _ _ _ h => h) (Or.inl ⟨by rfl, ?_⟩) hHeld ?_ ?_
            rotate_left
            · rintro w' ⟨s0, s1, s2, s3, s4, s5⟩
              go_simp
              with_reducible rfl
            rotate_left
            · simp only [Act.put, List.setIfInBounds_toArray, List.set_cons_zero, List.set_cons_succ, i64_w, i32_w]
              rfl
            refine one_ (i := 3) (N := some 98) #[true, true, true, true, true, true, true, false, false, false, false, false, false, false, false, false] rfl rfl (by kernel_rfl) (by decide) (fun K hK => ?_)
            refine goes_ Try.func15 (by kernel_rfl) rfl #[.pointer (some ⟨gt, 0, none⟩), .int .i64 now] (by rfl) rfl rfl (by simp only [List.map_toArray, List.map_cons, List.map_nil]; rfl) ?_
            with_reducible refine (O_Ready fl r0 r1 (r + 1) (Rt.held now + Rt.dbl r0 r1 r.toNat) now HO).mono ?_
            rintro e w1 ⟨rfl, HO1⟩
            refine ⟨_, rfl, ?_⟩
            rw [hRD]
            clear HO
            have HO := HO1
            clear HO1
            refine hK.out _ _ ⟨(by first | exact HO.cell 0 rfl _ rfl | exact HO.cell 1 rfl _ rfl | exact HO.cell 2 rfl _ rfl | exact HO.cell 3 rfl _ rfl | exact HO.cell 4 rfl _ rfl), (by first | exact HO.cell 0 rfl _ rfl | exact HO.cell 1 rfl _ rfl | exact HO.cell 2 rfl _ rfl | exact HO.cell 3 rfl _ rfl | exact HO.cell 4 rfl _ rfl), (by first | exact HO.cell 0 rfl _ rfl | exact HO.cell 1 rfl _ rfl | exact HO.cell 2 rfl _ rfl | exact HO.cell 3 rfl _ rfl | exact HO.cell 4 rfl _ rfl), (by first | exact HO.cell 0 rfl _ rfl | exact HO.cell 1 rfl _ rfl | exact HO.cell 2 rfl _ rfl | exact HO.cell 3 rfl _ rfl | exact HO.cell 4 rfl _ rfl), (by first | exact HO.cell 0 rfl _ rfl | exact HO.cell 1 rfl _ rfl | exact HO.cell 2 rfl _ rfl | exact HO.cell 3 rfl _ rfl | exact HO.cell 4 rfl _ rfl), (by first | exact HO.cell 0 rfl _ rfl | exact HO.cell 1 rfl _ rfl | exact HO.cell 2 rfl _ rfl | exact HO.cell 3 rfl _ rfl | exact HO.cell 4 rfl _ rfl)⟩ (fun hHeld => ?_)
            clear hK K
            refine norm_ (a' := ?_) ?_ ?_
            rotate_left
            · show Act.put _ (some 98) _ = _
              simp only [Act.put, List.setIfInBounds_toArray, List.set_cons_zero, List.set_cons_succ, i64_w, i32_w]
              rfl
            refine one_ (i := 7) (N := some 102) #[true, true, true, true, true, true, true, true, false, false, false, false, false, false, false, false] rfl rfl (by kernel_rfl) (by decide) (fun K hK => ?_)
            refine goes_ Try.func16 (by kernel_rfl) rfl #[rtim fl r0 r1 (r + 1) (Rt.held now + Rt.dbl r0 r1 r.toNat), .int .i64 now] (by rfl) rfl rfl (by simp only [List.map_toArray, List.map_cons, List.map_nil]; rfl) ?_
            with_reducible refine (RReady_any fl r0 r1 (r + 1) (Rt.held now + Rt.dbl r0 r1 r.toNat) now _).mono ?_
            rintro e w1 ⟨rfl, hb⟩
            refine ⟨_, rfl, ?_⟩
            rw [hRD]
            replace HO := HO.next hb
            clear hb
            refine hK.out _ _ ⟨(by first | exact HO.cell 0 rfl _ rfl | exact HO.cell 1 rfl _ rfl | exact HO.cell 2 rfl _ rfl | exact HO.cell 3 rfl _ rfl | exact HO.cell 4 rfl _ rfl), (by first | exact HO.cell 0 rfl _ rfl | exact HO.cell 1 rfl _ rfl | exact HO.cell 2 rfl _ rfl | exact HO.cell 3 rfl _ rfl | exact HO.cell 4 rfl _ rfl), (by first | exact HO.cell 0 rfl _ rfl | exact HO.cell 1 rfl _ rfl | exact HO.cell 2 rfl _ rfl | exact HO.cell 3 rfl _ rfl | exact HO.cell 4 rfl _ rfl), (by first | exact HO.cell 0 rfl _ rfl | exact HO.cell 1 rfl _ rfl | exact HO.cell 2 rfl _ rfl | exact HO.cell 3 rfl _ rfl | exact HO.cell 4 rfl _ rfl), (by first | exact HO.cell 0 rfl _ rfl | exact HO.cell 1 rfl _ rfl | exact HO.cell 2 rfl _ rfl | exact HO.cell 3 rfl _ rfl | exact HO.cell 4 rfl _ rfl), (by first | exact HO.cell 0 rfl _ rfl | exact HO.cell 1 rfl _ rfl | exact HO.cell 2 rfl _ rfl | exact HO.cell 3 rfl _ rfl | exact HO.cell 4 rfl _ rfl)⟩ (fun hHeld => ?_)
            clear hK K
            refine norm_ (a' := ?_) ?_ ?_
            rotate_left
            · show Act.put _ (some 102) _ = _
              simp only [Act.put, List.setIfInBounds_toArray, List.set_cons_zero, List.set_cons_succ, i64_w, i32_w]
              rfl
            refine pure_ (i := 8) (N := some 103) (v := ?_) (a' := ?_) #[true, true, true, true, true, true, true, true, true, false, false, false, false, false, false, false] rfl rfl (by kernel_rfl) (fun _ _ _ h => h) (Or.inl ⟨by rfl, ?_⟩) ?_ ?_
            rotate_left
            · intro w'
              go_simp
              with_reducible rfl
            rotate_left
            · simp only [Act.put, List.setIfInBounds_toArray, List.set_cons_zero, List.set_cons_succ, i64_w, i32_w]
              rfl
            refine pure_ (i := 9) (N := some 104) (v := ?_) (a' := ?_) #[true, true, true, true, true, true, true, true, true, true, false, false, false, false, false, false] rfl rfl (by kernel_rfl) (fun _ _ _ h => h) (Or.inl ⟨by rfl, ?_⟩) ?_ ?_
            rotate_left
            · intro w'
              go_simp
              with_reducible rfl
            rotate_left
            · simp only [Act.put, List.setIfInBounds_toArray, List.set_cons_zero, List.set_cons_succ, i64_w, i32_w]
              rfl
            refine pure_ (i := 10) (N := some 105) (v := ?_) (a' := ?_) #[true, true, true, true, true, true, true, true, true, true, true, false, false, false, false, false] rfl rfl (by kernel_rfl) (fun _ _ _ h => h) (Or.inl ⟨by rfl, ?_⟩) ?_ ?_
            rotate_left
            · intro w'
              go_simp
              with_reducible rfl
            rotate_left
            · simp only [Act.put, List.setIfInBounds_toArray, List.set_cons_zero, List.set_cons_succ, i64_w, i32_w]
              rfl
            refine take_ (i := 12) (N := some 107) (v := ?_) (a' := ?_) #[true, true, true, true, true, true, true, true, true, true, true, false, true, false, false, false] rfl rfl (by kernel_rfl) (fun _ _ _ h => h) (Or.inl ⟨by rfl, ?_⟩) hHeld ?_ ?_
            rotate_left
            · rintro w' ⟨s0, s1, s2, s3, s4, s5⟩
              go_simp
              with_reducible rfl
            rotate_left
            · simp only [Act.put, List.setIfInBounds_toArray, List.set_cons_zero, List.set_cons_succ, i64_w, i32_w]
              rfl
            refine one_ (i := 11) (N := some 106) #[true, true, true, true, true, true, true, true, true, true, true, true, true, false, false, false] rfl rfl (by kernel_rfl) (by decide) (fun K hK => ?_)
            refine goes_ Try.func17 (by kernel_rfl) rfl #[.pointer (some ⟨gt, 0, none⟩)] (by rfl) rfl rfl (by simp only [List.map_toArray, List.map_cons, List.map_nil]; rfl) ?_
            with_reducible refine (O_Left fl r0 r1 (r + 1) (Rt.held now + Rt.dbl r0 r1 r.toNat) HO (by omega) (by omega) (by omega) (by omega)).mono ?_
            rintro e w1 ⟨rfl, HO1⟩
            refine ⟨_, rfl, ?_⟩
            rw [hLF]
            clear HO
            have HO := HO1
            clear HO1
            refine hK.out _ _ ⟨(by first | exact HO.cell 0 rfl _ rfl | exact HO.cell 1 rfl _ rfl | exact HO.cell 2 rfl _ rfl | exact HO.cell 3 rfl _ rfl | exact HO.cell 4 rfl _ rfl), (by first | exact HO.cell 0 rfl _ rfl | exact HO.cell 1 rfl _ rfl | exact HO.cell 2 rfl _ rfl | exact HO.cell 3 rfl _ rfl | exact HO.cell 4 rfl _ rfl), (by first | exact HO.cell 0 rfl _ rfl | exact HO.cell 1 rfl _ rfl | exact HO.cell 2 rfl _ rfl | exact HO.cell 3 rfl _ rfl | exact HO.cell 4 rfl _ rfl), (by first | exact HO.cell 0 rfl _ rfl | exact HO.cell 1 rfl _ rfl | exact HO.cell 2 rfl _ rfl | exact HO.cell 3 rfl _ rfl | exact HO.cell 4 rfl _ rfl), (by first | exact HO.cell 0 rfl _ rfl | exact HO.cell 1 rfl _ rfl | exact HO.cell 2 rfl _ rfl | exact HO.cell 3 rfl _ rfl | exact HO.cell 4 rfl _ rfl), (by first | exact HO.cell 0 rfl _ rfl | exact HO.cell 1 rfl _ rfl | exact HO.cell 2 rfl _ rfl | exact HO.cell 3 rfl _ rfl | exact HO.cell 4 rfl _ rfl)⟩ (fun hHeld => ?_)
            clear hK K
            refine norm_ (a' := ?_) ?_ ?_
            rotate_left
            · show Act.put _ (some 106) _ = _
              simp only [Act.put, List.setIfInBounds_toArray, List.set_cons_zero, List.set_cons_succ, i64_w, i32_w]
              rfl
            refine one_ (i := 13) (N := some 108) #[true, true, true, true, true, true, true, true, true, true, true, true, true, true, false, false] rfl rfl (by kernel_rfl) (by decide) (fun K hK => ?_)
            refine goes_ Try.func18 (by kernel_rfl) rfl #[rtim fl r0 r1 (r + 1) (Rt.held now + Rt.dbl r0 r1 r.toNat)] (by rfl) rfl rfl (by simp only [List.map_toArray, List.map_cons, List.map_nil]; rfl) ?_
            with_reducible refine (RLeft_any fl r0 r1 (r + 1) (Rt.held now + Rt.dbl r0 r1 r.toNat) _ (by omega) (by omega) (by omega) (by omega)).mono ?_
            rintro e w1 ⟨rfl, hb⟩
            refine ⟨_, rfl, ?_⟩
            rw [hLF]
            replace HO := HO.next hb
            clear hb
            refine hK.out _ _ ⟨(by first | exact HO.cell 0 rfl _ rfl | exact HO.cell 1 rfl _ rfl | exact HO.cell 2 rfl _ rfl | exact HO.cell 3 rfl _ rfl | exact HO.cell 4 rfl _ rfl), (by first | exact HO.cell 0 rfl _ rfl | exact HO.cell 1 rfl _ rfl | exact HO.cell 2 rfl _ rfl | exact HO.cell 3 rfl _ rfl | exact HO.cell 4 rfl _ rfl), (by first | exact HO.cell 0 rfl _ rfl | exact HO.cell 1 rfl _ rfl | exact HO.cell 2 rfl _ rfl | exact HO.cell 3 rfl _ rfl | exact HO.cell 4 rfl _ rfl), (by first | exact HO.cell 0 rfl _ rfl | exact HO.cell 1 rfl _ rfl | exact HO.cell 2 rfl _ rfl | exact HO.cell 3 rfl _ rfl | exact HO.cell 4 rfl _ rfl), (by first | exact HO.cell 0 rfl _ rfl | exact HO.cell 1 rfl _ rfl | exact HO.cell 2 rfl _ rfl | exact HO.cell 3 rfl _ rfl | exact HO.cell 4 rfl _ rfl), (by first | exact HO.cell 0 rfl _ rfl | exact HO.cell 1 rfl _ rfl | exact HO.cell 2 rfl _ rfl | exact HO.cell 3 rfl _ rfl | exact HO.cell 4 rfl _ rfl)⟩ (fun hHeld => ?_)
            clear hK K
            refine norm_ (a' := ?_) ?_ ?_
            rotate_left
            · show Act.put _ (some 108) _ = _
              simp only [Act.put, List.setIfInBounds_toArray, List.set_cons_zero, List.set_cons_succ, i64_w, i32_w]
              rfl
            refine pure_ (i := 14) (N := some 109) (v := ?_) (a' := ?_) #[true, true, true, true, true, true, true, true, true, true, true, true, true, true, true, false] rfl rfl (by kernel_rfl) (fun _ _ _ h => h) (Or.inl ⟨by rfl, ?_⟩) ?_ ?_
            rotate_left
            · intro w'
              go_simp
              with_reducible rfl
            rotate_left
            · simp only [Act.put, List.setIfInBounds_toArray, List.set_cons_zero, List.set_cons_succ, i64_w, i32_w]
              rfl
            refine pure_ (i := 15) (N := some 110) (v := ?_) (a' := ?_) #[true, true, true, true, true, true, true, true, true, true, true, true, true, true, true, true] rfl rfl (by kernel_rfl) (fun _ _ _ h => h) (Or.inl ⟨by rfl, ?_⟩) ?_ ?_
            rotate_left
            · intro w'
              go_simp
              with_reducible rfl
            rotate_left
            · simp only [Act.put, List.setIfInBounds_toArray, List.set_cons_zero, List.set_cons_succ, i64_w, i32_w]
              rfl
            refine done_ (by kernel_rfl) ?_
            go_wp2_with (fail)
            go_roundg (len - (i + 1))
            case measure => omega
            case rel => exact ⟨i + 1, r + 1, Rt.held now + Rt.dbl r0 r1 r.toNat, rfl, by omega, rfl, by omega, by omega, HO.sub (by repeat (first | exact List.Sublist.refl _ | apply List.Sublist.cons_cons | apply List.Sublist.cons))⟩
          · go_wp2_with (first | (refine li_boxAgg 22 rfl rfl rfl HO ?_; clear HO; intro gb wb HO) | ((with_reducible refine gate_load 2 rfl ?_); first | (refine li_load 0 2 rfl rfl rfl HO rfl rfl (by kernel_rfl) ?_) | (refine li_load 1 2 rfl rfl rfl HO rfl rfl (by kernel_rfl) ?_) | (refine li_load 2 2 rfl rfl rfl HO rfl rfl (by kernel_rfl) ?_) | (refine li_load 3 2 rfl rfl rfl HO rfl rfl (by kernel_rfl) ?_) | (refine li_load 4 2 rfl rfl rfl HO rfl rfl (by kernel_rfl) ?_)) | (refine li_alloc (t := 30) rfl rfl (z := .agg #[.int .i64 0, .int .i64 0, .int .i64 0, .int .i64 0, .int .i64 0]) (cs := [.int .i64 0, .int .i64 0, .int .i64 0, .int .i64 0, .int .i64 0]) (by kernel_rfl) rfl HO ?_; clear HO; intro ga wa HO) | ((with_reducible refine gate_store 30 rfl ?_); first | (refine li_storeAgg 0 30 rfl rfl rfl rfl HO rfl rfl rfl rfl (by kernel_rfl) ?_; clear HO; intro ws HO; (try simp only [List.set_cons_zero, List.set_cons_succ] at HO)) | (refine li_storeAgg 1 30 rfl rfl rfl rfl HO rfl rfl rfl rfl (by kernel_rfl) ?_; clear HO; intro ws HO; (try simp only [List.set_cons_zero, List.set_cons_succ] at HO)) | (refine li_storeAgg 2 30 rfl rfl rfl rfl HO rfl rfl rfl rfl (by kernel_rfl) ?_; clear HO; intro ws HO; (try simp only [List.set_cons_zero, List.set_cons_succ] at HO)) | (refine li_storeAgg 3 30 rfl rfl rfl rfl HO rfl rfl rfl rfl (by kernel_rfl) ?_; clear HO; intro ws HO; (try simp only [List.set_cons_zero, List.set_cons_succ] at HO)) | (refine li_storeAgg 4 30 rfl rfl rfl rfl HO rfl rfl rfl rfl (by kernel_rfl) ?_; clear HO; intro ws HO; (try simp only [List.set_cons_zero, List.set_cons_succ] at HO))) | ((with_reducible refine gate_load 34 rfl ?_); first | (refine li_loadWhole 0 34 2 rfl rfl rfl HO rfl rfl (by kernel_rfl) (by kernel_rfl) (by kernel_rfl) ?_) | (refine li_loadWhole 1 34 2 rfl rfl rfl HO rfl rfl (by kernel_rfl) (by kernel_rfl) (by kernel_rfl) ?_) | (refine li_loadWhole 2 34 2 rfl rfl rfl HO rfl rfl (by kernel_rfl) (by kernel_rfl) (by kernel_rfl) ?_) | (refine li_loadWhole 3 34 2 rfl rfl rfl HO rfl rfl (by kernel_rfl) (by kernel_rfl) (by kernel_rfl) ?_) | (refine li_loadWhole 4 34 2 rfl rfl rfl HO rfl rfl (by kernel_rfl) (by kernel_rfl) (by kernel_rfl) ?_)) | (refine li_alloc (t := 34) rfl rfl (z := .agg #[.int .i64 0, .int .i64 0]) (cs := [.int .i64 0, .int .i64 0]) (by kernel_rfl) rfl HO ?_; clear HO; intro ga wa HO) | ((with_reducible refine gate_store 34 rfl ?_); first | (refine li_storeAgg 0 34 rfl rfl rfl rfl HO rfl rfl rfl rfl (by kernel_rfl) ?_; clear HO; intro ws HO; (try simp only [List.set_cons_zero, List.set_cons_succ] at HO)) | (refine li_storeAgg 1 34 rfl rfl rfl rfl HO rfl rfl rfl rfl (by kernel_rfl) ?_; clear HO; intro ws HO; (try simp only [List.set_cons_zero, List.set_cons_succ] at HO)) | (refine li_storeAgg 2 34 rfl rfl rfl rfl HO rfl rfl rfl rfl (by kernel_rfl) ?_; clear HO; intro ws HO; (try simp only [List.set_cons_zero, List.set_cons_succ] at HO)) | (refine li_storeAgg 3 34 rfl rfl rfl rfl HO rfl rfl rfl rfl (by kernel_rfl) ?_; clear HO; intro ws HO; (try simp only [List.set_cons_zero, List.set_cons_succ] at HO)) | (refine li_storeAgg 4 34 rfl rfl rfl rfl HO rfl rfl rfl rfl (by kernel_rfl) ?_; clear HO; intro ws HO; (try simp only [List.set_cons_zero, List.set_cons_succ] at HO))) | ((with_reducible refine gate_load 3 rfl ?_); first | (refine li_load 0 3 rfl rfl rfl HO rfl rfl (by kernel_rfl) ?_) | (refine li_load 1 3 rfl rfl rfl HO rfl rfl (by kernel_rfl) ?_) | (refine li_load 2 3 rfl rfl rfl HO rfl rfl (by kernel_rfl) ?_) | (refine li_load 3 3 rfl rfl rfl HO rfl rfl (by kernel_rfl) ?_) | (refine li_load 4 3 rfl rfl rfl HO rfl rfl (by kernel_rfl) ?_)) | ((with_reducible refine gate_load 30 rfl ?_); first | (refine li_loadWhole 0 30 5 rfl rfl rfl HO rfl rfl (by kernel_rfl) (by kernel_rfl) (by kernel_rfl) ?_) | (refine li_loadWhole 1 30 5 rfl rfl rfl HO rfl rfl (by kernel_rfl) (by kernel_rfl) (by kernel_rfl) ?_) | (refine li_loadWhole 2 30 5 rfl rfl rfl HO rfl rfl (by kernel_rfl) (by kernel_rfl) (by kernel_rfl) ?_) | (refine li_loadWhole 3 30 5 rfl rfl rfl HO rfl rfl (by kernel_rfl) (by kernel_rfl) (by kernel_rfl) ?_) | (refine li_loadWhole 4 30 5 rfl rfl rfl HO rfl rfl (by kernel_rfl) (by kernel_rfl) (by kernel_rfl) ?_)) | (go_at_call 11; obtain ⟨gv, hgv⟩ : ∃ x, x = ga := ⟨_, rfl⟩; subst hgv; replace HO := HO.front 1 rfl; simp only [List.eraseIdx_cons_succ, List.eraseIdx_cons_zero] at HO; refine (O_Fail_over fl r0 r1 r nx now HO (by omega) (by omega) (by omega)).mono ?_; rintro e w2 ⟨rfl, HO1⟩; clear HO; have HO := HO1; clear HO1) | (go_at_call 12; refine (RFail_over fl r0 r1 r nx now _ (by omega) (by omega) (by omega)).mono ?_; rintro e w2 ⟨rfl, hb⟩; replace HO := HO.next hb; clear hb) | (refine li_loadAggAt 34 2 rfl rfl rfl (fun j x hj => HO.old (hcell j x hj)) rfl (by kernel_rfl) (by kernel_rfl) (by kernel_rfl) ?_))
            replace HO := HO.front 1 rfl; simp only [List.eraseIdx_cons_succ, List.eraseIdx_cons_zero] at HO
            obtain ⟨RD, hRD⟩ : ∃ RD, Rt.may fl (r + 1) (nx) now = RD := ⟨_, rfl⟩
            have hrr : (RD != RD) = false := by simp
            obtain ⟨LF, hLF⟩ : ∃ LF, max (fl - (r + 1)) 0 = LF := ⟨_, rfl⟩
            have hll : (LF != LF) = false := by simp
            refine start_ (n := 16) (S := fun w' => w'.cell? ⟨gm, 0, none⟩ = some (.int .i64 fl) ∧ w'.cell? ⟨gm, 1, none⟩ = some (.int .i64 r0) ∧ w'.cell? ⟨gm, 2, none⟩ = some (.int .i64 r1) ∧ w'.cell? ⟨gm, 3, none⟩ = some (.int .i64 (r + 1)) ∧ w'.cell? ⟨gm, 4, none⟩ = some (.int .i64 (nx)) ∧ w'.cell? ⟨gv, 1, none⟩ = some (.int .i64 now)) (ds := []) #[false, false, false, false, false, false, false, false, false, false, false, false, false, false, false, false] (by kernel_rfl) rfl rfl ⟨(by first | exact HO.drew.cell 0 rfl _ rfl | exact HO.drew.cell 1 rfl _ rfl | exact HO.drew.cell 2 rfl _ rfl | exact HO.drew.cell 3 rfl _ rfl | exact HO.drew.cell 4 rfl _ rfl), (by first | exact HO.drew.cell 0 rfl _ rfl | exact HO.drew.cell 1 rfl _ rfl | exact HO.drew.cell 2 rfl _ rfl | exact HO.drew.cell 3 rfl _ rfl | exact HO.drew.cell 4 rfl _ rfl), (by first | exact HO.drew.cell 0 rfl _ rfl | exact HO.drew.cell 1 rfl _ rfl | exact HO.drew.cell 2 rfl _ rfl | exact HO.drew.cell 3 rfl _ rfl | exact HO.drew.cell 4 rfl _ rfl), (by first | exact HO.drew.cell 0 rfl _ rfl | exact HO.drew.cell 1 rfl _ rfl | exact HO.drew.cell 2 rfl _ rfl | exact HO.drew.cell 3 rfl _ rfl | exact HO.drew.cell 4 rfl _ rfl), (by first | exact HO.drew.cell 0 rfl _ rfl | exact HO.drew.cell 1 rfl _ rfl | exact HO.drew.cell 2 rfl _ rfl | exact HO.drew.cell 3 rfl _ rfl | exact HO.drew.cell 4 rfl _ rfl), (by first | exact HO.drew.cell 0 rfl _ rfl | exact HO.drew.cell 1 rfl _ rfl | exact HO.drew.cell 2 rfl _ rfl | exact HO.drew.cell 3 rfl _ rfl | exact HO.drew.cell 4 rfl _ rfl)⟩ (fun hHeld => ?_)
            replace HO := HO.drew
            refine pure_ (i := 0) (N := some 95) (v := ?_) (a' := ?_) #[true, false, false, false, false, false, false, false, false, false, false, false, false, false, false, false] rfl rfl (by kernel_rfl) (fun _ _ _ h => h) (Or.inl ⟨by rfl, ?_⟩) ?_ ?_
            rotate_left
            · intro w'
              go_simp
              with_reducible rfl
            rotate_left
            · simp only [Act.put, List.setIfInBounds_toArray, List.set_cons_zero, List.set_cons_succ, i64_w, i32_w]
              rfl
            refine pure_ (i := 1) (N := some 96) (v := ?_) (a' := ?_) #[true, true, false, false, false, false, false, false, false, false, false, false, false, false, false, false] rfl rfl (by kernel_rfl) (fun _ _ _ h => h) (Or.inl ⟨by rfl, ?_⟩) ?_ ?_
            rotate_left
            · intro w'
              go_simp
              with_reducible rfl
            rotate_left
            · simp only [Act.put, List.setIfInBounds_toArray, List.set_cons_zero, List.set_cons_succ, i64_w, i32_w]
              rfl
            refine pure_ (i := 5) (N := some 100) (v := ?_) (a' := ?_) #[true, true, false, false, false, true, false, false, false, false, false, false, false, false, false, false] rfl rfl (by kernel_rfl) (fun _ _ _ h => h) (Or.inl ⟨by rfl, ?_⟩) ?_ ?_
            rotate_left
            · intro w'
              go_simp
              with_reducible rfl
            rotate_left
            · simp only [Act.put, List.setIfInBounds_toArray, List.set_cons_zero, List.set_cons_succ, i64_w, i32_w]
              rfl
            refine take_ (i := 2) (N := some 97) (v := ?_) (a' := ?_) #[true, true, true, false, false, true, false, false, false, false, false, false, false, false, false, false] rfl rfl (by kernel_rfl) (fun _ _ _ h => h) (Or.inl ⟨by rfl, ?_⟩) hHeld ?_ ?_
            rotate_left
            · rintro w' ⟨s0, s1, s2, s3, s4, s5⟩
              go_simp
              with_reducible rfl
            rotate_left
            · simp only [Act.put, List.setIfInBounds_toArray, List.set_cons_zero, List.set_cons_succ, i64_w, i32_w]
              rfl
            refine take_ (i := 4) (N := some 99) (v := ?_) (a' := ?_) #[true, true, true, false, true, true, false, false, false, false, false, false, false, false, false, false] rfl rfl (by kernel_rfl) (fun _ _ _ h => h) (Or.inl ⟨by rfl, ?_⟩) hHeld ?_ ?_
            rotate_left
            · rintro w' ⟨s0, s1, s2, s3, s4, s5⟩
              go_simp
              with_reducible rfl
            rotate_left
            · simp only [Act.put, List.setIfInBounds_toArray, List.set_cons_zero, List.set_cons_succ, i64_w, i32_w]
              rfl
            refine take_ (i := 6) (N := some 101) (v := ?_) (a' := ?_) #[true, true, true, false, true, true, true, false, false, false, false, false, false, false, false, false] rfl rfl (by kernel_rfl) (fun _ _ _ h => h) (Or.inl ⟨by rfl, ?_⟩) hHeld ?_ ?_
            rotate_left
            · rintro w' ⟨s0, s1, s2, s3, s4, s5⟩
              go_simp
              with_reducible rfl
            rotate_left
            · simp only [Act.put, List.setIfInBounds_toArray, List.set_cons_zero, List.set_cons_succ, i64_w, i32_w]
              rfl
            refine one_ (i := 3) (N := some 98) #[true, true, true, true, true, true, true, false, false, false, false, false, false, false, false, false] rfl rfl (by kernel_rfl) (by decide) (fun K hK => ?_)
            refine goes_ Try.func15 (by kernel_rfl) rfl #[.pointer (some ⟨gt, 0, none⟩), .int .i64 now] (by rfl) rfl rfl (by simp only [List.map_toArray, List.map_cons, List.map_nil]; rfl) ?_
            with_reducible refine (O_Ready fl r0 r1 (r + 1) (nx) now HO).mono ?_
            rintro e w1 ⟨rfl, HO1⟩
            refine ⟨_, rfl, ?_⟩
            rw [hRD]
            clear HO
            have HO := HO1
            clear HO1
            refine hK.out _ _ ⟨(by first | exact HO.cell 0 rfl _ rfl | exact HO.cell 1 rfl _ rfl | exact HO.cell 2 rfl _ rfl | exact HO.cell 3 rfl _ rfl | exact HO.cell 4 rfl _ rfl), (by first | exact HO.cell 0 rfl _ rfl | exact HO.cell 1 rfl _ rfl | exact HO.cell 2 rfl _ rfl | exact HO.cell 3 rfl _ rfl | exact HO.cell 4 rfl _ rfl), (by first | exact HO.cell 0 rfl _ rfl | exact HO.cell 1 rfl _ rfl | exact HO.cell 2 rfl _ rfl | exact HO.cell 3 rfl _ rfl | exact HO.cell 4 rfl _ rfl), (by first | exact HO.cell 0 rfl _ rfl | exact HO.cell 1 rfl _ rfl | exact HO.cell 2 rfl _ rfl | exact HO.cell 3 rfl _ rfl | exact HO.cell 4 rfl _ rfl), (by first | exact HO.cell 0 rfl _ rfl | exact HO.cell 1 rfl _ rfl | exact HO.cell 2 rfl _ rfl | exact HO.cell 3 rfl _ rfl | exact HO.cell 4 rfl _ rfl), (by first | exact HO.cell 0 rfl _ rfl | exact HO.cell 1 rfl _ rfl | exact HO.cell 2 rfl _ rfl | exact HO.cell 3 rfl _ rfl | exact HO.cell 4 rfl _ rfl)⟩ (fun hHeld => ?_)
            clear hK K
            refine norm_ (a' := ?_) ?_ ?_
            rotate_left
            · show Act.put _ (some 98) _ = _
              simp only [Act.put, List.setIfInBounds_toArray, List.set_cons_zero, List.set_cons_succ, i64_w, i32_w]
              rfl
            refine one_ (i := 7) (N := some 102) #[true, true, true, true, true, true, true, true, false, false, false, false, false, false, false, false] rfl rfl (by kernel_rfl) (by decide) (fun K hK => ?_)
            refine goes_ Try.func16 (by kernel_rfl) rfl #[rtim fl r0 r1 (r + 1) (nx), .int .i64 now] (by rfl) rfl rfl (by simp only [List.map_toArray, List.map_cons, List.map_nil]; rfl) ?_
            with_reducible refine (RReady_any fl r0 r1 (r + 1) (nx) now _).mono ?_
            rintro e w1 ⟨rfl, hb⟩
            refine ⟨_, rfl, ?_⟩
            rw [hRD]
            replace HO := HO.next hb
            clear hb
            refine hK.out _ _ ⟨(by first | exact HO.cell 0 rfl _ rfl | exact HO.cell 1 rfl _ rfl | exact HO.cell 2 rfl _ rfl | exact HO.cell 3 rfl _ rfl | exact HO.cell 4 rfl _ rfl), (by first | exact HO.cell 0 rfl _ rfl | exact HO.cell 1 rfl _ rfl | exact HO.cell 2 rfl _ rfl | exact HO.cell 3 rfl _ rfl | exact HO.cell 4 rfl _ rfl), (by first | exact HO.cell 0 rfl _ rfl | exact HO.cell 1 rfl _ rfl | exact HO.cell 2 rfl _ rfl | exact HO.cell 3 rfl _ rfl | exact HO.cell 4 rfl _ rfl), (by first | exact HO.cell 0 rfl _ rfl | exact HO.cell 1 rfl _ rfl | exact HO.cell 2 rfl _ rfl | exact HO.cell 3 rfl _ rfl | exact HO.cell 4 rfl _ rfl), (by first | exact HO.cell 0 rfl _ rfl | exact HO.cell 1 rfl _ rfl | exact HO.cell 2 rfl _ rfl | exact HO.cell 3 rfl _ rfl | exact HO.cell 4 rfl _ rfl), (by first | exact HO.cell 0 rfl _ rfl | exact HO.cell 1 rfl _ rfl | exact HO.cell 2 rfl _ rfl | exact HO.cell 3 rfl _ rfl | exact HO.cell 4 rfl _ rfl)⟩ (fun hHeld => ?_)
            clear hK K
            refine norm_ (a' := ?_) ?_ ?_
            rotate_left
            · show Act.put _ (some 102) _ = _
              simp only [Act.put, List.setIfInBounds_toArray, List.set_cons_zero, List.set_cons_succ, i64_w, i32_w]
              rfl
            refine pure_ (i := 8) (N := some 103) (v := ?_) (a' := ?_) #[true, true, true, true, true, true, true, true, true, false, false, false, false, false, false, false] rfl rfl (by kernel_rfl) (fun _ _ _ h => h) (Or.inl ⟨by rfl, ?_⟩) ?_ ?_
            rotate_left
            · intro w'
              go_simp
              with_reducible rfl
            rotate_left
            · simp only [Act.put, List.setIfInBounds_toArray, List.set_cons_zero, List.set_cons_succ, i64_w, i32_w]
              rfl
            refine pure_ (i := 9) (N := some 104) (v := ?_) (a' := ?_) #[true, true, true, true, true, true, true, true, true, true, false, false, false, false, false, false] rfl rfl (by kernel_rfl) (fun _ _ _ h => h) (Or.inl ⟨by rfl, ?_⟩) ?_ ?_
            rotate_left
            · intro w'
              go_simp
              with_reducible rfl
            rotate_left
            · simp only [Act.put, List.setIfInBounds_toArray, List.set_cons_zero, List.set_cons_succ, i64_w, i32_w]
              rfl
            refine pure_ (i := 10) (N := some 105) (v := ?_) (a' := ?_) #[true, true, true, true, true, true, true, true, true, true, true, false, false, false, false, false] rfl rfl (by kernel_rfl) (fun _ _ _ h => h) (Or.inl ⟨by rfl, ?_⟩) ?_ ?_
            rotate_left
            · intro w'
              go_simp
              with_reducible rfl
            rotate_left
            · simp only [Act.put, List.setIfInBounds_toArray, List.set_cons_zero, List.set_cons_succ, i64_w, i32_w]
              rfl
            refine take_ (i := 12) (N := some 107) (v := ?_) (a' := ?_) #[true, true, true, true, true, true, true, true, true, true, true, false, true, false, false, false] rfl rfl (by kernel_rfl) (fun _ _ _ h => h) (Or.inl ⟨by rfl, ?_⟩) hHeld ?_ ?_
            rotate_left
            · rintro w' ⟨s0, s1, s2, s3, s4, s5⟩
              go_simp
              with_reducible rfl
            rotate_left
            · simp only [Act.put, List.setIfInBounds_toArray, List.set_cons_zero, List.set_cons_succ, i64_w, i32_w]
              rfl
            refine one_ (i := 11) (N := some 106) #[true, true, true, true, true, true, true, true, true, true, true, true, true, false, false, false] rfl rfl (by kernel_rfl) (by decide) (fun K hK => ?_)
            refine goes_ Try.func17 (by kernel_rfl) rfl #[.pointer (some ⟨gt, 0, none⟩)] (by rfl) rfl rfl (by simp only [List.map_toArray, List.map_cons, List.map_nil]; rfl) ?_
            with_reducible refine (O_Left fl r0 r1 (r + 1) (nx) HO (by omega) (by omega) (by omega) (by omega)).mono ?_
            rintro e w1 ⟨rfl, HO1⟩
            refine ⟨_, rfl, ?_⟩
            rw [hLF]
            clear HO
            have HO := HO1
            clear HO1
            refine hK.out _ _ ⟨(by first | exact HO.cell 0 rfl _ rfl | exact HO.cell 1 rfl _ rfl | exact HO.cell 2 rfl _ rfl | exact HO.cell 3 rfl _ rfl | exact HO.cell 4 rfl _ rfl), (by first | exact HO.cell 0 rfl _ rfl | exact HO.cell 1 rfl _ rfl | exact HO.cell 2 rfl _ rfl | exact HO.cell 3 rfl _ rfl | exact HO.cell 4 rfl _ rfl), (by first | exact HO.cell 0 rfl _ rfl | exact HO.cell 1 rfl _ rfl | exact HO.cell 2 rfl _ rfl | exact HO.cell 3 rfl _ rfl | exact HO.cell 4 rfl _ rfl), (by first | exact HO.cell 0 rfl _ rfl | exact HO.cell 1 rfl _ rfl | exact HO.cell 2 rfl _ rfl | exact HO.cell 3 rfl _ rfl | exact HO.cell 4 rfl _ rfl), (by first | exact HO.cell 0 rfl _ rfl | exact HO.cell 1 rfl _ rfl | exact HO.cell 2 rfl _ rfl | exact HO.cell 3 rfl _ rfl | exact HO.cell 4 rfl _ rfl), (by first | exact HO.cell 0 rfl _ rfl | exact HO.cell 1 rfl _ rfl | exact HO.cell 2 rfl _ rfl | exact HO.cell 3 rfl _ rfl | exact HO.cell 4 rfl _ rfl)⟩ (fun hHeld => ?_)
            clear hK K
            refine norm_ (a' := ?_) ?_ ?_
            rotate_left
            · show Act.put _ (some 106) _ = _
              simp only [Act.put, List.setIfInBounds_toArray, List.set_cons_zero, List.set_cons_succ, i64_w, i32_w]
              rfl
            refine one_ (i := 13) (N := some 108) #[true, true, true, true, true, true, true, true, true, true, true, true, true, true, false, false] rfl rfl (by kernel_rfl) (by decide) (fun K hK => ?_)
            refine goes_ Try.func18 (by kernel_rfl) rfl #[rtim fl r0 r1 (r + 1) (nx)] (by rfl) rfl rfl (by simp only [List.map_toArray, List.map_cons, List.map_nil]; rfl) ?_
            with_reducible refine (RLeft_any fl r0 r1 (r + 1) (nx) _ (by omega) (by omega) (by omega) (by omega)).mono ?_
            rintro e w1 ⟨rfl, hb⟩
            refine ⟨_, rfl, ?_⟩
            rw [hLF]
            replace HO := HO.next hb
            clear hb
            refine hK.out _ _ ⟨(by first | exact HO.cell 0 rfl _ rfl | exact HO.cell 1 rfl _ rfl | exact HO.cell 2 rfl _ rfl | exact HO.cell 3 rfl _ rfl | exact HO.cell 4 rfl _ rfl), (by first | exact HO.cell 0 rfl _ rfl | exact HO.cell 1 rfl _ rfl | exact HO.cell 2 rfl _ rfl | exact HO.cell 3 rfl _ rfl | exact HO.cell 4 rfl _ rfl), (by first | exact HO.cell 0 rfl _ rfl | exact HO.cell 1 rfl _ rfl | exact HO.cell 2 rfl _ rfl | exact HO.cell 3 rfl _ rfl | exact HO.cell 4 rfl _ rfl), (by first | exact HO.cell 0 rfl _ rfl | exact HO.cell 1 rfl _ rfl | exact HO.cell 2 rfl _ rfl | exact HO.cell 3 rfl _ rfl | exact HO.cell 4 rfl _ rfl), (by first | exact HO.cell 0 rfl _ rfl | exact HO.cell 1 rfl _ rfl | exact HO.cell 2 rfl _ rfl | exact HO.cell 3 rfl _ rfl | exact HO.cell 4 rfl _ rfl), (by first | exact HO.cell 0 rfl _ rfl | exact HO.cell 1 rfl _ rfl | exact HO.cell 2 rfl _ rfl | exact HO.cell 3 rfl _ rfl | exact HO.cell 4 rfl _ rfl)⟩ (fun hHeld => ?_)
            clear hK K
            refine norm_ (a' := ?_) ?_ ?_
            rotate_left
            · show Act.put _ (some 108) _ = _
              simp only [Act.put, List.setIfInBounds_toArray, List.set_cons_zero, List.set_cons_succ, i64_w, i32_w]
              rfl
            refine pure_ (i := 14) (N := some 109) (v := ?_) (a' := ?_) #[true, true, true, true, true, true, true, true, true, true, true, true, true, true, true, false] rfl rfl (by kernel_rfl) (fun _ _ _ h => h) (Or.inl ⟨by rfl, ?_⟩) ?_ ?_
            rotate_left
            · intro w'
              go_simp
              with_reducible rfl
            rotate_left
            · simp only [Act.put, List.setIfInBounds_toArray, List.set_cons_zero, List.set_cons_succ, i64_w, i32_w]
              rfl
            refine pure_ (i := 15) (N := some 110) (v := ?_) (a' := ?_) #[true, true, true, true, true, true, true, true, true, true, true, true, true, true, true, true] rfl rfl (by kernel_rfl) (fun _ _ _ h => h) (Or.inl ⟨by rfl, ?_⟩) ?_ ?_
            rotate_left
            · intro w'
              go_simp
              with_reducible rfl
            rotate_left
            · simp only [Act.put, List.setIfInBounds_toArray, List.set_cons_zero, List.set_cons_succ, i64_w, i32_w]
              rfl
            refine done_ (by kernel_rfl) ?_
            go_wp2_with (fail)
            go_roundg (len - (i + 1))
            case measure => omega
            case rel => exact ⟨i + 1, r + 1, nx, rfl, by omega, rfl, by omega, by omega, HO.sub (by repeat (first | exact List.Sublist.refl _ | apply List.Sublist.cons_cons | apply List.Sublist.cons))⟩
          · go_wp2_with (first | (refine li_boxAgg 22 rfl rfl rfl HO ?_; clear HO; intro gb wb HO) | ((with_reducible refine gate_load 2 rfl ?_); first | (refine li_load 0 2 rfl rfl rfl HO rfl rfl (by kernel_rfl) ?_) | (refine li_load 1 2 rfl rfl rfl HO rfl rfl (by kernel_rfl) ?_) | (refine li_load 2 2 rfl rfl rfl HO rfl rfl (by kernel_rfl) ?_) | (refine li_load 3 2 rfl rfl rfl HO rfl rfl (by kernel_rfl) ?_) | (refine li_load 4 2 rfl rfl rfl HO rfl rfl (by kernel_rfl) ?_)) | (refine li_alloc (t := 30) rfl rfl (z := .agg #[.int .i64 0, .int .i64 0, .int .i64 0, .int .i64 0, .int .i64 0]) (cs := [.int .i64 0, .int .i64 0, .int .i64 0, .int .i64 0, .int .i64 0]) (by kernel_rfl) rfl HO ?_; clear HO; intro ga wa HO) | ((with_reducible refine gate_store 30 rfl ?_); first | (refine li_storeAgg 0 30 rfl rfl rfl rfl HO rfl rfl rfl rfl (by kernel_rfl) ?_; clear HO; intro ws HO; (try simp only [List.set_cons_zero, List.set_cons_succ] at HO)) | (refine li_storeAgg 1 30 rfl rfl rfl rfl HO rfl rfl rfl rfl (by kernel_rfl) ?_; clear HO; intro ws HO; (try simp only [List.set_cons_zero, List.set_cons_succ] at HO)) | (refine li_storeAgg 2 30 rfl rfl rfl rfl HO rfl rfl rfl rfl (by kernel_rfl) ?_; clear HO; intro ws HO; (try simp only [List.set_cons_zero, List.set_cons_succ] at HO)) | (refine li_storeAgg 3 30 rfl rfl rfl rfl HO rfl rfl rfl rfl (by kernel_rfl) ?_; clear HO; intro ws HO; (try simp only [List.set_cons_zero, List.set_cons_succ] at HO)) | (refine li_storeAgg 4 30 rfl rfl rfl rfl HO rfl rfl rfl rfl (by kernel_rfl) ?_; clear HO; intro ws HO; (try simp only [List.set_cons_zero, List.set_cons_succ] at HO))) | ((with_reducible refine gate_load 34 rfl ?_); first | (refine li_loadWhole 0 34 2 rfl rfl rfl HO rfl rfl (by kernel_rfl) (by kernel_rfl) (by kernel_rfl) ?_) | (refine li_loadWhole 1 34 2 rfl rfl rfl HO rfl rfl (by kernel_rfl) (by kernel_rfl) (by kernel_rfl) ?_) | (refine li_loadWhole 2 34 2 rfl rfl rfl HO rfl rfl (by kernel_rfl) (by kernel_rfl) (by kernel_rfl) ?_) | (refine li_loadWhole 3 34 2 rfl rfl rfl HO rfl rfl (by kernel_rfl) (by kernel_rfl) (by kernel_rfl) ?_) | (refine li_loadWhole 4 34 2 rfl rfl rfl HO rfl rfl (by kernel_rfl) (by kernel_rfl) (by kernel_rfl) ?_)) | (refine li_alloc (t := 34) rfl rfl (z := .agg #[.int .i64 0, .int .i64 0]) (cs := [.int .i64 0, .int .i64 0]) (by kernel_rfl) rfl HO ?_; clear HO; intro ga wa HO) | ((with_reducible refine gate_store 34 rfl ?_); first | (refine li_storeAgg 0 34 rfl rfl rfl rfl HO rfl rfl rfl rfl (by kernel_rfl) ?_; clear HO; intro ws HO; (try simp only [List.set_cons_zero, List.set_cons_succ] at HO)) | (refine li_storeAgg 1 34 rfl rfl rfl rfl HO rfl rfl rfl rfl (by kernel_rfl) ?_; clear HO; intro ws HO; (try simp only [List.set_cons_zero, List.set_cons_succ] at HO)) | (refine li_storeAgg 2 34 rfl rfl rfl rfl HO rfl rfl rfl rfl (by kernel_rfl) ?_; clear HO; intro ws HO; (try simp only [List.set_cons_zero, List.set_cons_succ] at HO)) | (refine li_storeAgg 3 34 rfl rfl rfl rfl HO rfl rfl rfl rfl (by kernel_rfl) ?_; clear HO; intro ws HO; (try simp only [List.set_cons_zero, List.set_cons_succ] at HO)) | (refine li_storeAgg 4 34 rfl rfl rfl rfl HO rfl rfl rfl rfl (by kernel_rfl) ?_; clear HO; intro ws HO; (try simp only [List.set_cons_zero, List.set_cons_succ] at HO))) | ((with_reducible refine gate_load 3 rfl ?_); first | (refine li_load 0 3 rfl rfl rfl HO rfl rfl (by kernel_rfl) ?_) | (refine li_load 1 3 rfl rfl rfl HO rfl rfl (by kernel_rfl) ?_) | (refine li_load 2 3 rfl rfl rfl HO rfl rfl (by kernel_rfl) ?_) | (refine li_load 3 3 rfl rfl rfl HO rfl rfl (by kernel_rfl) ?_) | (refine li_load 4 3 rfl rfl rfl HO rfl rfl (by kernel_rfl) ?_)) | ((with_reducible refine gate_load 30 rfl ?_); first | (refine li_loadWhole 0 30 5 rfl rfl rfl HO rfl rfl (by kernel_rfl) (by kernel_rfl) (by kernel_rfl) ?_) | (refine li_loadWhole 1 30 5 rfl rfl rfl HO rfl rfl (by kernel_rfl) (by kernel_rfl) (by kernel_rfl) ?_) | (refine li_loadWhole 2 30 5 rfl rfl rfl HO rfl rfl (by kernel_rfl) (by kernel_rfl) (by kernel_rfl) ?_) | (refine li_loadWhole 3 30 5 rfl rfl rfl HO rfl rfl (by kernel_rfl) (by kernel_rfl) (by kernel_rfl) ?_) | (refine li_loadWhole 4 30 5 rfl rfl rfl HO rfl rfl (by kernel_rfl) (by kernel_rfl) (by kernel_rfl) ?_)) | (go_at_call 13; obtain ⟨gv, hgv⟩ : ∃ x, x = ga := ⟨_, rfl⟩; subst hgv; replace HO := HO.front 1 rfl; simp only [List.eraseIdx_cons_succ, List.eraseIdx_cons_zero] at HO; refine (O_Good fl r0 r1 r nx HO).mono ?_; rintro e w2 ⟨rfl, HO1⟩; clear HO; have HO := HO1; clear HO1) | (go_at_call 14; refine (RGood_any fl r0 r1 r nx _).mono ?_; rintro e w2 ⟨rfl, hb⟩; replace HO := HO.next hb; clear hb) | (refine li_loadAggAt 34 2 rfl rfl rfl (fun j x hj => HO.old (hcell j x hj)) rfl (by kernel_rfl) (by kernel_rfl) (by kernel_rfl) ?_))
            obtain ⟨RD, hRD⟩ : ∃ RD, Rt.may fl (0) (0) now = RD := ⟨_, rfl⟩
            have hrr : (RD != RD) = false := by simp
            obtain ⟨LF, hLF⟩ : ∃ LF, max (fl - (0)) 0 = LF := ⟨_, rfl⟩
            have hll : (LF != LF) = false := by simp
            refine start_ (n := 16) (S := fun w' => w'.cell? ⟨gm, 0, none⟩ = some (.int .i64 fl) ∧ w'.cell? ⟨gm, 1, none⟩ = some (.int .i64 r0) ∧ w'.cell? ⟨gm, 2, none⟩ = some (.int .i64 r1) ∧ w'.cell? ⟨gm, 3, none⟩ = some (.int .i64 (0)) ∧ w'.cell? ⟨gm, 4, none⟩ = some (.int .i64 (0)) ∧ w'.cell? ⟨gv, 1, none⟩ = some (.int .i64 now)) (ds := []) #[false, false, false, false, false, false, false, false, false, false, false, false, false, false, false, false] (by kernel_rfl) rfl rfl ⟨(by first | exact HO.drew.cell 0 rfl _ rfl | exact HO.drew.cell 1 rfl _ rfl | exact HO.drew.cell 2 rfl _ rfl | exact HO.drew.cell 3 rfl _ rfl | exact HO.drew.cell 4 rfl _ rfl), (by first | exact HO.drew.cell 0 rfl _ rfl | exact HO.drew.cell 1 rfl _ rfl | exact HO.drew.cell 2 rfl _ rfl | exact HO.drew.cell 3 rfl _ rfl | exact HO.drew.cell 4 rfl _ rfl), (by first | exact HO.drew.cell 0 rfl _ rfl | exact HO.drew.cell 1 rfl _ rfl | exact HO.drew.cell 2 rfl _ rfl | exact HO.drew.cell 3 rfl _ rfl | exact HO.drew.cell 4 rfl _ rfl), (by first | exact HO.drew.cell 0 rfl _ rfl | exact HO.drew.cell 1 rfl _ rfl | exact HO.drew.cell 2 rfl _ rfl | exact HO.drew.cell 3 rfl _ rfl | exact HO.drew.cell 4 rfl _ rfl), (by first | exact HO.drew.cell 0 rfl _ rfl | exact HO.drew.cell 1 rfl _ rfl | exact HO.drew.cell 2 rfl _ rfl | exact HO.drew.cell 3 rfl _ rfl | exact HO.drew.cell 4 rfl _ rfl), (by first | exact HO.drew.cell 0 rfl _ rfl | exact HO.drew.cell 1 rfl _ rfl | exact HO.drew.cell 2 rfl _ rfl | exact HO.drew.cell 3 rfl _ rfl | exact HO.drew.cell 4 rfl _ rfl)⟩ (fun hHeld => ?_)
            replace HO := HO.drew
            refine pure_ (i := 0) (N := some 95) (v := ?_) (a' := ?_) #[true, false, false, false, false, false, false, false, false, false, false, false, false, false, false, false] rfl rfl (by kernel_rfl) (fun _ _ _ h => h) (Or.inl ⟨by rfl, ?_⟩) ?_ ?_
            rotate_left
            · intro w'
              go_simp
              with_reducible rfl
            rotate_left
            · simp only [Act.put, List.setIfInBounds_toArray, List.set_cons_zero, List.set_cons_succ, i64_w, i32_w]
              rfl
            refine pure_ (i := 1) (N := some 96) (v := ?_) (a' := ?_) #[true, true, false, false, false, false, false, false, false, false, false, false, false, false, false, false] rfl rfl (by kernel_rfl) (fun _ _ _ h => h) (Or.inl ⟨by rfl, ?_⟩) ?_ ?_
            rotate_left
            · intro w'
              go_simp
              with_reducible rfl
            rotate_left
            · simp only [Act.put, List.setIfInBounds_toArray, List.set_cons_zero, List.set_cons_succ, i64_w, i32_w]
              rfl
            refine pure_ (i := 5) (N := some 100) (v := ?_) (a' := ?_) #[true, true, false, false, false, true, false, false, false, false, false, false, false, false, false, false] rfl rfl (by kernel_rfl) (fun _ _ _ h => h) (Or.inl ⟨by rfl, ?_⟩) ?_ ?_
            rotate_left
            · intro w'
              go_simp
              with_reducible rfl
            rotate_left
            · simp only [Act.put, List.setIfInBounds_toArray, List.set_cons_zero, List.set_cons_succ, i64_w, i32_w]
              rfl
            refine take_ (i := 2) (N := some 97) (v := ?_) (a' := ?_) #[true, true, true, false, false, true, false, false, false, false, false, false, false, false, false, false] rfl rfl (by kernel_rfl) (fun _ _ _ h => h) (Or.inl ⟨by rfl, ?_⟩) hHeld ?_ ?_
            rotate_left
            · rintro w' ⟨s0, s1, s2, s3, s4, s5⟩
              go_simp
              with_reducible rfl
            rotate_left
            · simp only [Act.put, List.setIfInBounds_toArray, List.set_cons_zero, List.set_cons_succ, i64_w, i32_w]
              rfl
            refine take_ (i := 4) (N := some 99) (v := ?_) (a' := ?_) #[true, true, true, false, true, true, false, false, false, false, false, false, false, false, false, false] rfl rfl (by kernel_rfl) (fun _ _ _ h => h) (Or.inl ⟨by rfl, ?_⟩) hHeld ?_ ?_
            rotate_left
            · rintro w' ⟨s0, s1, s2, s3, s4, s5⟩
              go_simp
              with_reducible rfl
            rotate_left
            · simp only [Act.put, List.setIfInBounds_toArray, List.set_cons_zero, List.set_cons_succ, i64_w, i32_w]
              rfl
            refine take_ (i := 6) (N := some 101) (v := ?_) (a' := ?_) #[true, true, true, false, true, true, true, false, false, false, false, false, false, false, false, false] rfl rfl (by kernel_rfl) (fun _ _ _ h => h) (Or.inl ⟨by rfl, ?_⟩) hHeld ?_ ?_
            rotate_left
            · rintro w' ⟨s0, s1, s2, s3, s4, s5⟩
              go_simp
              with_reducible rfl
            rotate_left
            · simp only [Act.put, List.setIfInBounds_toArray, List.set_cons_zero, List.set_cons_succ, i64_w, i32_w]
              rfl
            refine one_ (i := 3) (N := some 98) #[true, true, true, true, true, true, true, false, false, false, false, false, false, false, false, false] rfl rfl (by kernel_rfl) (by decide) (fun K hK => ?_)
            refine goes_ Try.func15 (by kernel_rfl) rfl #[.pointer (some ⟨gt, 0, none⟩), .int .i64 now] (by rfl) rfl rfl (by simp only [List.map_toArray, List.map_cons, List.map_nil]; rfl) ?_
            with_reducible refine (O_Ready fl r0 r1 (0) (0) now HO).mono ?_
            rintro e w1 ⟨rfl, HO1⟩
            refine ⟨_, rfl, ?_⟩
            rw [hRD]
            clear HO
            have HO := HO1
            clear HO1
            refine hK.out _ _ ⟨(by first | exact HO.cell 0 rfl _ rfl | exact HO.cell 1 rfl _ rfl | exact HO.cell 2 rfl _ rfl | exact HO.cell 3 rfl _ rfl | exact HO.cell 4 rfl _ rfl), (by first | exact HO.cell 0 rfl _ rfl | exact HO.cell 1 rfl _ rfl | exact HO.cell 2 rfl _ rfl | exact HO.cell 3 rfl _ rfl | exact HO.cell 4 rfl _ rfl), (by first | exact HO.cell 0 rfl _ rfl | exact HO.cell 1 rfl _ rfl | exact HO.cell 2 rfl _ rfl | exact HO.cell 3 rfl _ rfl | exact HO.cell 4 rfl _ rfl), (by first | exact HO.cell 0 rfl _ rfl | exact HO.cell 1 rfl _ rfl | exact HO.cell 2 rfl _ rfl | exact HO.cell 3 rfl _ rfl | exact HO.cell 4 rfl _ rfl), (by first | exact HO.cell 0 rfl _ rfl | exact HO.cell 1 rfl _ rfl | exact HO.cell 2 rfl _ rfl | exact HO.cell 3 rfl _ rfl | exact HO.cell 4 rfl _ rfl), (by first | exact HO.cell 0 rfl _ rfl | exact HO.cell 1 rfl _ rfl | exact HO.cell 2 rfl _ rfl | exact HO.cell 3 rfl _ rfl | exact HO.cell 4 rfl _ rfl)⟩ (fun hHeld => ?_)
            clear hK K
            refine norm_ (a' := ?_) ?_ ?_
            rotate_left
            · show Act.put _ (some 98) _ = _
              simp only [Act.put, List.setIfInBounds_toArray, List.set_cons_zero, List.set_cons_succ, i64_w, i32_w]
              rfl
            refine one_ (i := 7) (N := some 102) #[true, true, true, true, true, true, true, true, false, false, false, false, false, false, false, false] rfl rfl (by kernel_rfl) (by decide) (fun K hK => ?_)
            refine goes_ Try.func16 (by kernel_rfl) rfl #[rtim fl r0 r1 (0) (0), .int .i64 now] (by rfl) rfl rfl (by simp only [List.map_toArray, List.map_cons, List.map_nil]; rfl) ?_
            with_reducible refine (RReady_any fl r0 r1 (0) (0) now _).mono ?_
            rintro e w1 ⟨rfl, hb⟩
            refine ⟨_, rfl, ?_⟩
            rw [hRD]
            replace HO := HO.next hb
            clear hb
            refine hK.out _ _ ⟨(by first | exact HO.cell 0 rfl _ rfl | exact HO.cell 1 rfl _ rfl | exact HO.cell 2 rfl _ rfl | exact HO.cell 3 rfl _ rfl | exact HO.cell 4 rfl _ rfl), (by first | exact HO.cell 0 rfl _ rfl | exact HO.cell 1 rfl _ rfl | exact HO.cell 2 rfl _ rfl | exact HO.cell 3 rfl _ rfl | exact HO.cell 4 rfl _ rfl), (by first | exact HO.cell 0 rfl _ rfl | exact HO.cell 1 rfl _ rfl | exact HO.cell 2 rfl _ rfl | exact HO.cell 3 rfl _ rfl | exact HO.cell 4 rfl _ rfl), (by first | exact HO.cell 0 rfl _ rfl | exact HO.cell 1 rfl _ rfl | exact HO.cell 2 rfl _ rfl | exact HO.cell 3 rfl _ rfl | exact HO.cell 4 rfl _ rfl), (by first | exact HO.cell 0 rfl _ rfl | exact HO.cell 1 rfl _ rfl | exact HO.cell 2 rfl _ rfl | exact HO.cell 3 rfl _ rfl | exact HO.cell 4 rfl _ rfl), (by first | exact HO.cell 0 rfl _ rfl | exact HO.cell 1 rfl _ rfl | exact HO.cell 2 rfl _ rfl | exact HO.cell 3 rfl _ rfl | exact HO.cell 4 rfl _ rfl)⟩ (fun hHeld => ?_)
            clear hK K
            refine norm_ (a' := ?_) ?_ ?_
            rotate_left
            · show Act.put _ (some 102) _ = _
              simp only [Act.put, List.setIfInBounds_toArray, List.set_cons_zero, List.set_cons_succ, i64_w, i32_w]
              rfl
            refine pure_ (i := 8) (N := some 103) (v := ?_) (a' := ?_) #[true, true, true, true, true, true, true, true, true, false, false, false, false, false, false, false] rfl rfl (by kernel_rfl) (fun _ _ _ h => h) (Or.inl ⟨by rfl, ?_⟩) ?_ ?_
            rotate_left
            · intro w'
              go_simp
              with_reducible rfl
            rotate_left
            · simp only [Act.put, List.setIfInBounds_toArray, List.set_cons_zero, List.set_cons_succ, i64_w, i32_w]
              rfl
            refine pure_ (i := 9) (N := some 104) (v := ?_) (a' := ?_) #[true, true, true, true, true, true, true, true, true, true, false, false, false, false, false, false] rfl rfl (by kernel_rfl) (fun _ _ _ h => h) (Or.inl ⟨by rfl, ?_⟩) ?_ ?_
            rotate_left
            · intro w'
              go_simp
              with_reducible rfl
            rotate_left
            · simp only [Act.put, List.setIfInBounds_toArray, List.set_cons_zero, List.set_cons_succ, i64_w, i32_w]
              rfl
            refine pure_ (i := 10) (N := some 105) (v := ?_) (a' := ?_) #[true, true, true, true, true, true, true, true, true, true, true, false, false, false, false, false] rfl rfl (by kernel_rfl) (fun _ _ _ h => h) (Or.inl ⟨by rfl, ?_⟩) ?_ ?_
            rotate_left
            · intro w'
              go_simp
              with_reducible rfl
            rotate_left
            · simp only [Act.put, List.setIfInBounds_toArray, List.set_cons_zero, List.set_cons_succ, i64_w, i32_w]
              rfl
            refine take_ (i := 12) (N := some 107) (v := ?_) (a' := ?_) #[true, true, true, true, true, true, true, true, true, true, true, false, true, false, false, false] rfl rfl (by kernel_rfl) (fun _ _ _ h => h) (Or.inl ⟨by rfl, ?_⟩) hHeld ?_ ?_
            rotate_left
            · rintro w' ⟨s0, s1, s2, s3, s4, s5⟩
              go_simp
              with_reducible rfl
            rotate_left
            · simp only [Act.put, List.setIfInBounds_toArray, List.set_cons_zero, List.set_cons_succ, i64_w, i32_w]
              rfl
            refine one_ (i := 11) (N := some 106) #[true, true, true, true, true, true, true, true, true, true, true, true, true, false, false, false] rfl rfl (by kernel_rfl) (by decide) (fun K hK => ?_)
            refine goes_ Try.func17 (by kernel_rfl) rfl #[.pointer (some ⟨gt, 0, none⟩)] (by rfl) rfl rfl (by simp only [List.map_toArray, List.map_cons, List.map_nil]; rfl) ?_
            with_reducible refine (O_Left fl r0 r1 (0) (0) HO (by omega) (by omega) (by omega) (by omega)).mono ?_
            rintro e w1 ⟨rfl, HO1⟩
            refine ⟨_, rfl, ?_⟩
            rw [hLF]
            clear HO
            have HO := HO1
            clear HO1
            refine hK.out _ _ ⟨(by first | exact HO.cell 0 rfl _ rfl | exact HO.cell 1 rfl _ rfl | exact HO.cell 2 rfl _ rfl | exact HO.cell 3 rfl _ rfl | exact HO.cell 4 rfl _ rfl), (by first | exact HO.cell 0 rfl _ rfl | exact HO.cell 1 rfl _ rfl | exact HO.cell 2 rfl _ rfl | exact HO.cell 3 rfl _ rfl | exact HO.cell 4 rfl _ rfl), (by first | exact HO.cell 0 rfl _ rfl | exact HO.cell 1 rfl _ rfl | exact HO.cell 2 rfl _ rfl | exact HO.cell 3 rfl _ rfl | exact HO.cell 4 rfl _ rfl), (by first | exact HO.cell 0 rfl _ rfl | exact HO.cell 1 rfl _ rfl | exact HO.cell 2 rfl _ rfl | exact HO.cell 3 rfl _ rfl | exact HO.cell 4 rfl _ rfl), (by first | exact HO.cell 0 rfl _ rfl | exact HO.cell 1 rfl _ rfl | exact HO.cell 2 rfl _ rfl | exact HO.cell 3 rfl _ rfl | exact HO.cell 4 rfl _ rfl), (by first | exact HO.cell 0 rfl _ rfl | exact HO.cell 1 rfl _ rfl | exact HO.cell 2 rfl _ rfl | exact HO.cell 3 rfl _ rfl | exact HO.cell 4 rfl _ rfl)⟩ (fun hHeld => ?_)
            clear hK K
            refine norm_ (a' := ?_) ?_ ?_
            rotate_left
            · show Act.put _ (some 106) _ = _
              simp only [Act.put, List.setIfInBounds_toArray, List.set_cons_zero, List.set_cons_succ, i64_w, i32_w]
              rfl
            refine one_ (i := 13) (N := some 108) #[true, true, true, true, true, true, true, true, true, true, true, true, true, true, false, false] rfl rfl (by kernel_rfl) (by decide) (fun K hK => ?_)
            refine goes_ Try.func18 (by kernel_rfl) rfl #[rtim fl r0 r1 (0) (0)] (by rfl) rfl rfl (by simp only [List.map_toArray, List.map_cons, List.map_nil]; rfl) ?_
            with_reducible refine (RLeft_any fl r0 r1 (0) (0) _ (by omega) (by omega) (by omega) (by omega)).mono ?_
            rintro e w1 ⟨rfl, hb⟩
            refine ⟨_, rfl, ?_⟩
            rw [hLF]
            replace HO := HO.next hb
            clear hb
            refine hK.out _ _ ⟨(by first | exact HO.cell 0 rfl _ rfl | exact HO.cell 1 rfl _ rfl | exact HO.cell 2 rfl _ rfl | exact HO.cell 3 rfl _ rfl | exact HO.cell 4 rfl _ rfl), (by first | exact HO.cell 0 rfl _ rfl | exact HO.cell 1 rfl _ rfl | exact HO.cell 2 rfl _ rfl | exact HO.cell 3 rfl _ rfl | exact HO.cell 4 rfl _ rfl), (by first | exact HO.cell 0 rfl _ rfl | exact HO.cell 1 rfl _ rfl | exact HO.cell 2 rfl _ rfl | exact HO.cell 3 rfl _ rfl | exact HO.cell 4 rfl _ rfl), (by first | exact HO.cell 0 rfl _ rfl | exact HO.cell 1 rfl _ rfl | exact HO.cell 2 rfl _ rfl | exact HO.cell 3 rfl _ rfl | exact HO.cell 4 rfl _ rfl), (by first | exact HO.cell 0 rfl _ rfl | exact HO.cell 1 rfl _ rfl | exact HO.cell 2 rfl _ rfl | exact HO.cell 3 rfl _ rfl | exact HO.cell 4 rfl _ rfl), (by first | exact HO.cell 0 rfl _ rfl | exact HO.cell 1 rfl _ rfl | exact HO.cell 2 rfl _ rfl | exact HO.cell 3 rfl _ rfl | exact HO.cell 4 rfl _ rfl)⟩ (fun hHeld => ?_)
            clear hK K
            refine norm_ (a' := ?_) ?_ ?_
            rotate_left
            · show Act.put _ (some 108) _ = _
              simp only [Act.put, List.setIfInBounds_toArray, List.set_cons_zero, List.set_cons_succ, i64_w, i32_w]
              rfl
            refine pure_ (i := 14) (N := some 109) (v := ?_) (a' := ?_) #[true, true, true, true, true, true, true, true, true, true, true, true, true, true, true, false] rfl rfl (by kernel_rfl) (fun _ _ _ h => h) (Or.inl ⟨by rfl, ?_⟩) ?_ ?_
            rotate_left
            · intro w'
              go_simp
              with_reducible rfl
            rotate_left
            · simp only [Act.put, List.setIfInBounds_toArray, List.set_cons_zero, List.set_cons_succ, i64_w, i32_w]
              rfl
            refine pure_ (i := 15) (N := some 110) (v := ?_) (a' := ?_) #[true, true, true, true, true, true, true, true, true, true, true, true, true, true, true, true] rfl rfl (by kernel_rfl) (fun _ _ _ h => h) (Or.inl ⟨by rfl, ?_⟩) ?_ ?_
            rotate_left
            · intro w'
              go_simp
              with_reducible rfl
            rotate_left
            · simp only [Act.put, List.setIfInBounds_toArray, List.set_cons_zero, List.set_cons_succ, i64_w, i32_w]
              rfl
            refine done_ (by kernel_rfl) ?_
            go_wp2_with (fail)
            go_roundg (len - (i + 1))
            case measure => omega
            case rel => exact ⟨i + 1, 0, 0, rfl, by omega, rfl, by omega, by omega, HO.sub (by repeat (first | exact List.Sublist.refl _ | apply List.Sublist.cons_cons | apply List.Sublist.cons))⟩
          · have hq1 : (ki == 0) = false := by simp; omega
            have hq2 : (ki == 1) = false := by simp; omega
            go_wp2_with (first | (refine li_boxAgg 22 rfl rfl rfl HO ?_; clear HO; intro gb wb HO) | ((with_reducible refine gate_load 2 rfl ?_); first | (refine li_load 0 2 rfl rfl rfl HO rfl rfl (by kernel_rfl) ?_) | (refine li_load 1 2 rfl rfl rfl HO rfl rfl (by kernel_rfl) ?_) | (refine li_load 2 2 rfl rfl rfl HO rfl rfl (by kernel_rfl) ?_) | (refine li_load 3 2 rfl rfl rfl HO rfl rfl (by kernel_rfl) ?_) | (refine li_load 4 2 rfl rfl rfl HO rfl rfl (by kernel_rfl) ?_)) | (refine li_alloc (t := 30) rfl rfl (z := .agg #[.int .i64 0, .int .i64 0, .int .i64 0, .int .i64 0, .int .i64 0]) (cs := [.int .i64 0, .int .i64 0, .int .i64 0, .int .i64 0, .int .i64 0]) (by kernel_rfl) rfl HO ?_; clear HO; intro ga wa HO) | ((with_reducible refine gate_store 30 rfl ?_); first | (refine li_storeAgg 0 30 rfl rfl rfl rfl HO rfl rfl rfl rfl (by kernel_rfl) ?_; clear HO; intro ws HO; (try simp only [List.set_cons_zero, List.set_cons_succ] at HO)) | (refine li_storeAgg 1 30 rfl rfl rfl rfl HO rfl rfl rfl rfl (by kernel_rfl) ?_; clear HO; intro ws HO; (try simp only [List.set_cons_zero, List.set_cons_succ] at HO)) | (refine li_storeAgg 2 30 rfl rfl rfl rfl HO rfl rfl rfl rfl (by kernel_rfl) ?_; clear HO; intro ws HO; (try simp only [List.set_cons_zero, List.set_cons_succ] at HO)) | (refine li_storeAgg 3 30 rfl rfl rfl rfl HO rfl rfl rfl rfl (by kernel_rfl) ?_; clear HO; intro ws HO; (try simp only [List.set_cons_zero, List.set_cons_succ] at HO)) | (refine li_storeAgg 4 30 rfl rfl rfl rfl HO rfl rfl rfl rfl (by kernel_rfl) ?_; clear HO; intro ws HO; (try simp only [List.set_cons_zero, List.set_cons_succ] at HO))) | ((with_reducible refine gate_load 34 rfl ?_); first | (refine li_loadWhole 0 34 2 rfl rfl rfl HO rfl rfl (by kernel_rfl) (by kernel_rfl) (by kernel_rfl) ?_) | (refine li_loadWhole 1 34 2 rfl rfl rfl HO rfl rfl (by kernel_rfl) (by kernel_rfl) (by kernel_rfl) ?_) | (refine li_loadWhole 2 34 2 rfl rfl rfl HO rfl rfl (by kernel_rfl) (by kernel_rfl) (by kernel_rfl) ?_) | (refine li_loadWhole 3 34 2 rfl rfl rfl HO rfl rfl (by kernel_rfl) (by kernel_rfl) (by kernel_rfl) ?_) | (refine li_loadWhole 4 34 2 rfl rfl rfl HO rfl rfl (by kernel_rfl) (by kernel_rfl) (by kernel_rfl) ?_)) | (refine li_alloc (t := 34) rfl rfl (z := .agg #[.int .i64 0, .int .i64 0]) (cs := [.int .i64 0, .int .i64 0]) (by kernel_rfl) rfl HO ?_; clear HO; intro ga wa HO) | ((with_reducible refine gate_store 34 rfl ?_); first | (refine li_storeAgg 0 34 rfl rfl rfl rfl HO rfl rfl rfl rfl (by kernel_rfl) ?_; clear HO; intro ws HO; (try simp only [List.set_cons_zero, List.set_cons_succ] at HO)) | (refine li_storeAgg 1 34 rfl rfl rfl rfl HO rfl rfl rfl rfl (by kernel_rfl) ?_; clear HO; intro ws HO; (try simp only [List.set_cons_zero, List.set_cons_succ] at HO)) | (refine li_storeAgg 2 34 rfl rfl rfl rfl HO rfl rfl rfl rfl (by kernel_rfl) ?_; clear HO; intro ws HO; (try simp only [List.set_cons_zero, List.set_cons_succ] at HO)) | (refine li_storeAgg 3 34 rfl rfl rfl rfl HO rfl rfl rfl rfl (by kernel_rfl) ?_; clear HO; intro ws HO; (try simp only [List.set_cons_zero, List.set_cons_succ] at HO)) | (refine li_storeAgg 4 34 rfl rfl rfl rfl HO rfl rfl rfl rfl (by kernel_rfl) ?_; clear HO; intro ws HO; (try simp only [List.set_cons_zero, List.set_cons_succ] at HO))) | ((with_reducible refine gate_load 3 rfl ?_); first | (refine li_load 0 3 rfl rfl rfl HO rfl rfl (by kernel_rfl) ?_) | (refine li_load 1 3 rfl rfl rfl HO rfl rfl (by kernel_rfl) ?_) | (refine li_load 2 3 rfl rfl rfl HO rfl rfl (by kernel_rfl) ?_) | (refine li_load 3 3 rfl rfl rfl HO rfl rfl (by kernel_rfl) ?_) | (refine li_load 4 3 rfl rfl rfl HO rfl rfl (by kernel_rfl) ?_)) | ((with_reducible refine gate_load 30 rfl ?_); first | (refine li_loadWhole 0 30 5 rfl rfl rfl HO rfl rfl (by kernel_rfl) (by kernel_rfl) (by kernel_rfl) ?_) | (refine li_loadWhole 1 30 5 rfl rfl rfl HO rfl rfl (by kernel_rfl) (by kernel_rfl) (by kernel_rfl) ?_) | (refine li_loadWhole 2 30 5 rfl rfl rfl HO rfl rfl (by kernel_rfl) (by kernel_rfl) (by kernel_rfl) ?_) | (refine li_loadWhole 3 30 5 rfl rfl rfl HO rfl rfl (by kernel_rfl) (by kernel_rfl) (by kernel_rfl) ?_) | (refine li_loadWhole 4 30 5 rfl rfl rfl HO rfl rfl (by kernel_rfl) (by kernel_rfl) (by kernel_rfl) ?_)) | (refine li_loadAggAt 34 2 rfl rfl rfl (fun j x hj => HO.old (hcell j x hj)) rfl (by kernel_rfl) (by kernel_rfl) (by kernel_rfl) ?_))
            obtain ⟨gv, hgv⟩ : ∃ x, x = ga := ⟨_, rfl⟩; subst hgv
            replace HO := HO.front 1 rfl; simp only [List.eraseIdx_cons_succ, List.eraseIdx_cons_zero] at HO
            obtain ⟨RD, hRD⟩ : ∃ RD, Rt.may fl (r) (nx) now = RD := ⟨_, rfl⟩
            have hrr : (RD != RD) = false := by simp
            obtain ⟨LF, hLF⟩ : ∃ LF, max (fl - (r)) 0 = LF := ⟨_, rfl⟩
            have hll : (LF != LF) = false := by simp
            refine start_ (n := 16) (S := fun w' => w'.cell? ⟨gm, 0, none⟩ = some (.int .i64 fl) ∧ w'.cell? ⟨gm, 1, none⟩ = some (.int .i64 r0) ∧ w'.cell? ⟨gm, 2, none⟩ = some (.int .i64 r1) ∧ w'.cell? ⟨gm, 3, none⟩ = some (.int .i64 (r)) ∧ w'.cell? ⟨gm, 4, none⟩ = some (.int .i64 (nx)) ∧ w'.cell? ⟨gv, 1, none⟩ = some (.int .i64 now)) (ds := []) #[false, false, false, false, false, false, false, false, false, false, false, false, false, false, false, false] (by kernel_rfl) rfl rfl ⟨(by first | exact HO.drew.cell 0 rfl _ rfl | exact HO.drew.cell 1 rfl _ rfl | exact HO.drew.cell 2 rfl _ rfl | exact HO.drew.cell 3 rfl _ rfl | exact HO.drew.cell 4 rfl _ rfl), (by first | exact HO.drew.cell 0 rfl _ rfl | exact HO.drew.cell 1 rfl _ rfl | exact HO.drew.cell 2 rfl _ rfl | exact HO.drew.cell 3 rfl _ rfl | exact HO.drew.cell 4 rfl _ rfl), (by first | exact HO.drew.cell 0 rfl _ rfl | exact HO.drew.cell 1 rfl _ rfl | exact HO.drew.cell 2 rfl _ rfl | exact HO.drew.cell 3 rfl _ rfl | exact HO.drew.cell 4 rfl _ rfl), (by first | exact HO.drew.cell 0 rfl _ rfl | exact HO.drew.cell 1 rfl _ rfl | exact HO.drew.cell 2 rfl _ rfl | exact HO.drew.cell 3 rfl _ rfl | exact HO.drew.cell 4 rfl _ rfl), (by first | exact HO.drew.cell 0 rfl _ rfl | exact HO.drew.cell 1 rfl _ rfl | exact HO.drew.cell 2 rfl _ rfl | exact HO.drew.cell 3 rfl _ rfl | exact HO.drew.cell 4 rfl _ rfl), (by first | exact HO.drew.cell 0 rfl _ rfl | exact HO.drew.cell 1 rfl _ rfl | exact HO.drew.cell 2 rfl _ rfl | exact HO.drew.cell 3 rfl _ rfl | exact HO.drew.cell 4 rfl _ rfl)⟩ (fun hHeld => ?_)
            replace HO := HO.drew
            refine pure_ (i := 0) (N := some 95) (v := ?_) (a' := ?_) #[true, false, false, false, false, false, false, false, false, false, false, false, false, false, false, false] rfl rfl (by kernel_rfl) (fun _ _ _ h => h) (Or.inl ⟨by rfl, ?_⟩) ?_ ?_
            rotate_left
            · intro w'
              go_simp
              with_reducible rfl
            rotate_left
            · simp only [Act.put, List.setIfInBounds_toArray, List.set_cons_zero, List.set_cons_succ, i64_w, i32_w]
              rfl
            refine pure_ (i := 1) (N := some 96) (v := ?_) (a' := ?_) #[true, true, false, false, false, false, false, false, false, false, false, false, false, false, false, false] rfl rfl (by kernel_rfl) (fun _ _ _ h => h) (Or.inl ⟨by rfl, ?_⟩) ?_ ?_
            rotate_left
            · intro w'
              go_simp
              with_reducible rfl
            rotate_left
            · simp only [Act.put, List.setIfInBounds_toArray, List.set_cons_zero, List.set_cons_succ, i64_w, i32_w]
              rfl
            refine pure_ (i := 5) (N := some 100) (v := ?_) (a' := ?_) #[true, true, false, false, false, true, false, false, false, false, false, false, false, false, false, false] rfl rfl (by kernel_rfl) (fun _ _ _ h => h) (Or.inl ⟨by rfl, ?_⟩) ?_ ?_
            rotate_left
            · intro w'
              go_simp
              with_reducible rfl
            rotate_left
            · simp only [Act.put, List.setIfInBounds_toArray, List.set_cons_zero, List.set_cons_succ, i64_w, i32_w]
              rfl
            refine take_ (i := 2) (N := some 97) (v := ?_) (a' := ?_) #[true, true, true, false, false, true, false, false, false, false, false, false, false, false, false, false] rfl rfl (by kernel_rfl) (fun _ _ _ h => h) (Or.inl ⟨by rfl, ?_⟩) hHeld ?_ ?_
            rotate_left
            · rintro w' ⟨s0, s1, s2, s3, s4, s5⟩
              go_simp
              with_reducible rfl
            rotate_left
            · simp only [Act.put, List.setIfInBounds_toArray, List.set_cons_zero, List.set_cons_succ, i64_w, i32_w]
              rfl
            refine take_ (i := 4) (N := some 99) (v := ?_) (a' := ?_) #[true, true, true, false, true, true, false, false, false, false, false, false, false, false, false, false] rfl rfl (by kernel_rfl) (fun _ _ _ h => h) (Or.inl ⟨by rfl, ?_⟩) hHeld ?_ ?_
            rotate_left
            · rintro w' ⟨s0, s1, s2, s3, s4, s5⟩
              go_simp
              with_reducible rfl
            rotate_left
            · simp only [Act.put, List.setIfInBounds_toArray, List.set_cons_zero, List.set_cons_succ, i64_w, i32_w]
              rfl
            refine take_ (i := 6) (N := some 101) (v := ?_) (a' := ?_) #[true, true, true, false, true, true, true, false, false, false, false, false, false, false, false, false] rfl rfl (by kernel_rfl) (fun _ _ _ h => h) (Or.inl ⟨by rfl, ?_⟩) hHeld ?_ ?_
            rotate_left
            · rintro w' ⟨s0, s1, s2, s3, s4, s5⟩
              go_simp
              with_reducible rfl
            rotate_left
            · simp only [Act.put, List.setIfInBounds_toArray, List.set_cons_zero, List.set_cons_succ, i64_w, i32_w]
              rfl
            refine one_ (i := 3) (N := some 98) #[true, true, true, true, true, true, true, false, false, false, false, false, false, false, false, false] rfl rfl (by kernel_rfl) (by decide) (fun K hK => ?_)
            refine goes_ Try.func15 (by kernel_rfl) rfl #[.pointer (some ⟨gt, 0, none⟩), .int .i64 now] (by rfl) rfl rfl (by simp only [List.map_toArray, List.map_cons, List.map_nil]; rfl) ?_
            with_reducible refine (O_Ready fl r0 r1 (r) (nx) now HO).mono ?_
            rintro e w1 ⟨rfl, HO1⟩
            refine ⟨_, rfl, ?_⟩
            rw [hRD]
            clear HO
            have HO := HO1
            clear HO1
            refine hK.out _ _ ⟨(by first | exact HO.cell 0 rfl _ rfl | exact HO.cell 1 rfl _ rfl | exact HO.cell 2 rfl _ rfl | exact HO.cell 3 rfl _ rfl | exact HO.cell 4 rfl _ rfl), (by first | exact HO.cell 0 rfl _ rfl | exact HO.cell 1 rfl _ rfl | exact HO.cell 2 rfl _ rfl | exact HO.cell 3 rfl _ rfl | exact HO.cell 4 rfl _ rfl), (by first | exact HO.cell 0 rfl _ rfl | exact HO.cell 1 rfl _ rfl | exact HO.cell 2 rfl _ rfl | exact HO.cell 3 rfl _ rfl | exact HO.cell 4 rfl _ rfl), (by first | exact HO.cell 0 rfl _ rfl | exact HO.cell 1 rfl _ rfl | exact HO.cell 2 rfl _ rfl | exact HO.cell 3 rfl _ rfl | exact HO.cell 4 rfl _ rfl), (by first | exact HO.cell 0 rfl _ rfl | exact HO.cell 1 rfl _ rfl | exact HO.cell 2 rfl _ rfl | exact HO.cell 3 rfl _ rfl | exact HO.cell 4 rfl _ rfl), (by first | exact HO.cell 0 rfl _ rfl | exact HO.cell 1 rfl _ rfl | exact HO.cell 2 rfl _ rfl | exact HO.cell 3 rfl _ rfl | exact HO.cell 4 rfl _ rfl)⟩ (fun hHeld => ?_)
            clear hK K
            refine norm_ (a' := ?_) ?_ ?_
            rotate_left
            · show Act.put _ (some 98) _ = _
              simp only [Act.put, List.setIfInBounds_toArray, List.set_cons_zero, List.set_cons_succ, i64_w, i32_w]
              rfl
            refine one_ (i := 7) (N := some 102) #[true, true, true, true, true, true, true, true, false, false, false, false, false, false, false, false] rfl rfl (by kernel_rfl) (by decide) (fun K hK => ?_)
            refine goes_ Try.func16 (by kernel_rfl) rfl #[rtim fl r0 r1 (r) (nx), .int .i64 now] (by rfl) rfl rfl (by simp only [List.map_toArray, List.map_cons, List.map_nil]; rfl) ?_
            with_reducible refine (RReady_any fl r0 r1 (r) (nx) now _).mono ?_
            rintro e w1 ⟨rfl, hb⟩
            refine ⟨_, rfl, ?_⟩
            rw [hRD]
            replace HO := HO.next hb
            clear hb
            refine hK.out _ _ ⟨(by first | exact HO.cell 0 rfl _ rfl | exact HO.cell 1 rfl _ rfl | exact HO.cell 2 rfl _ rfl | exact HO.cell 3 rfl _ rfl | exact HO.cell 4 rfl _ rfl), (by first | exact HO.cell 0 rfl _ rfl | exact HO.cell 1 rfl _ rfl | exact HO.cell 2 rfl _ rfl | exact HO.cell 3 rfl _ rfl | exact HO.cell 4 rfl _ rfl), (by first | exact HO.cell 0 rfl _ rfl | exact HO.cell 1 rfl _ rfl | exact HO.cell 2 rfl _ rfl | exact HO.cell 3 rfl _ rfl | exact HO.cell 4 rfl _ rfl), (by first | exact HO.cell 0 rfl _ rfl | exact HO.cell 1 rfl _ rfl | exact HO.cell 2 rfl _ rfl | exact HO.cell 3 rfl _ rfl | exact HO.cell 4 rfl _ rfl), (by first | exact HO.cell 0 rfl _ rfl | exact HO.cell 1 rfl _ rfl | exact HO.cell 2 rfl _ rfl | exact HO.cell 3 rfl _ rfl | exact HO.cell 4 rfl _ rfl), (by first | exact HO.cell 0 rfl _ rfl | exact HO.cell 1 rfl _ rfl | exact HO.cell 2 rfl _ rfl | exact HO.cell 3 rfl _ rfl | exact HO.cell 4 rfl _ rfl)⟩ (fun hHeld => ?_)
            clear hK K
            refine norm_ (a' := ?_) ?_ ?_
            rotate_left
            · show Act.put _ (some 102) _ = _
              simp only [Act.put, List.setIfInBounds_toArray, List.set_cons_zero, List.set_cons_succ, i64_w, i32_w]
              rfl
            refine pure_ (i := 8) (N := some 103) (v := ?_) (a' := ?_) #[true, true, true, true, true, true, true, true, true, false, false, false, false, false, false, false] rfl rfl (by kernel_rfl) (fun _ _ _ h => h) (Or.inl ⟨by rfl, ?_⟩) ?_ ?_
            rotate_left
            · intro w'
              go_simp
              with_reducible rfl
            rotate_left
            · simp only [Act.put, List.setIfInBounds_toArray, List.set_cons_zero, List.set_cons_succ, i64_w, i32_w]
              rfl
            refine pure_ (i := 9) (N := some 104) (v := ?_) (a' := ?_) #[true, true, true, true, true, true, true, true, true, true, false, false, false, false, false, false] rfl rfl (by kernel_rfl) (fun _ _ _ h => h) (Or.inl ⟨by rfl, ?_⟩) ?_ ?_
            rotate_left
            · intro w'
              go_simp
              with_reducible rfl
            rotate_left
            · simp only [Act.put, List.setIfInBounds_toArray, List.set_cons_zero, List.set_cons_succ, i64_w, i32_w]
              rfl
            refine pure_ (i := 10) (N := some 105) (v := ?_) (a' := ?_) #[true, true, true, true, true, true, true, true, true, true, true, false, false, false, false, false] rfl rfl (by kernel_rfl) (fun _ _ _ h => h) (Or.inl ⟨by rfl, ?_⟩) ?_ ?_
            rotate_left
            · intro w'
              go_simp
              with_reducible rfl
            rotate_left
            · simp only [Act.put, List.setIfInBounds_toArray, List.set_cons_zero, List.set_cons_succ, i64_w, i32_w]
              rfl
            refine take_ (i := 12) (N := some 107) (v := ?_) (a' := ?_) #[true, true, true, true, true, true, true, true, true, true, true, false, true, false, false, false] rfl rfl (by kernel_rfl) (fun _ _ _ h => h) (Or.inl ⟨by rfl, ?_⟩) hHeld ?_ ?_
            rotate_left
            · rintro w' ⟨s0, s1, s2, s3, s4, s5⟩
              go_simp
              with_reducible rfl
            rotate_left
            · simp only [Act.put, List.setIfInBounds_toArray, List.set_cons_zero, List.set_cons_succ, i64_w, i32_w]
              rfl
            refine one_ (i := 11) (N := some 106) #[true, true, true, true, true, true, true, true, true, true, true, true, true, false, false, false] rfl rfl (by kernel_rfl) (by decide) (fun K hK => ?_)
            refine goes_ Try.func17 (by kernel_rfl) rfl #[.pointer (some ⟨gt, 0, none⟩)] (by rfl) rfl rfl (by simp only [List.map_toArray, List.map_cons, List.map_nil]; rfl) ?_
            with_reducible refine (O_Left fl r0 r1 (r) (nx) HO (by omega) (by omega) (by omega) (by omega)).mono ?_
            rintro e w1 ⟨rfl, HO1⟩
            refine ⟨_, rfl, ?_⟩
            rw [hLF]
            clear HO
            have HO := HO1
            clear HO1
            refine hK.out _ _ ⟨(by first | exact HO.cell 0 rfl _ rfl | exact HO.cell 1 rfl _ rfl | exact HO.cell 2 rfl _ rfl | exact HO.cell 3 rfl _ rfl | exact HO.cell 4 rfl _ rfl), (by first | exact HO.cell 0 rfl _ rfl | exact HO.cell 1 rfl _ rfl | exact HO.cell 2 rfl _ rfl | exact HO.cell 3 rfl _ rfl | exact HO.cell 4 rfl _ rfl), (by first | exact HO.cell 0 rfl _ rfl | exact HO.cell 1 rfl _ rfl | exact HO.cell 2 rfl _ rfl | exact HO.cell 3 rfl _ rfl | exact HO.cell 4 rfl _ rfl), (by first | exact HO.cell 0 rfl _ rfl | exact HO.cell 1 rfl _ rfl | exact HO.cell 2 rfl _ rfl | exact HO.cell 3 rfl _ rfl | exact HO.cell 4 rfl _ rfl), (by first | exact HO.cell 0 rfl _ rfl | exact HO.cell 1 rfl _ rfl | exact HO.cell 2 rfl _ rfl | exact HO.cell 3 rfl _ rfl | exact HO.cell 4 rfl _ rfl), (by first | exact HO.cell 0 rfl _ rfl | exact HO.cell 1 rfl _ rfl | exact HO.cell 2 rfl _ rfl | exact HO.cell 3 rfl _ rfl | exact HO.cell 4 rfl _ rfl)⟩ (fun hHeld => ?_)
            clear hK K
            refine norm_ (a' := ?_) ?_ ?_
            rotate_left
            · show Act.put _ (some 106) _ = _
              simp only [Act.put, List.setIfInBounds_toArray, List.set_cons_zero, List.set_cons_succ, i64_w, i32_w]
              rfl
            refine one_ (i := 13) (N := some 108) #[true, true, true, true, true, true, true, true, true, true, true, true, true, true, false, false] rfl rfl (by kernel_rfl) (by decide) (fun K hK => ?_)
            refine goes_ Try.func18 (by kernel_rfl) rfl #[rtim fl r0 r1 (r) (nx)] (by rfl) rfl rfl (by simp only [List.map_toArray, List.map_cons, List.map_nil]; rfl) ?_
            with_reducible refine (RLeft_any fl r0 r1 (r) (nx) _ (by omega) (by omega) (by omega) (by omega)).mono ?_
            rintro e w1 ⟨rfl, hb⟩
            refine ⟨_, rfl, ?_⟩
            rw [hLF]
            replace HO := HO.next hb
            clear hb
            refine hK.out _ _ ⟨(by first | exact HO.cell 0 rfl _ rfl | exact HO.cell 1 rfl _ rfl | exact HO.cell 2 rfl _ rfl | exact HO.cell 3 rfl _ rfl | exact HO.cell 4 rfl _ rfl), (by first | exact HO.cell 0 rfl _ rfl | exact HO.cell 1 rfl _ rfl | exact HO.cell 2 rfl _ rfl | exact HO.cell 3 rfl _ rfl | exact HO.cell 4 rfl _ rfl), (by first | exact HO.cell 0 rfl _ rfl | exact HO.cell 1 rfl _ rfl | exact HO.cell 2 rfl _ rfl | exact HO.cell 3 rfl _ rfl | exact HO.cell 4 rfl _ rfl), (by first | exact HO.cell 0 rfl _ rfl | exact HO.cell 1 rfl _ rfl | exact HO.cell 2 rfl _ rfl | exact HO.cell 3 rfl _ rfl | exact HO.cell 4 rfl _ rfl), (by first | exact HO.cell 0 rfl _ rfl | exact HO.cell 1 rfl _ rfl | exact HO.cell 2 rfl _ rfl | exact HO.cell 3 rfl _ rfl | exact HO.cell 4 rfl _ rfl), (by first | exact HO.cell 0 rfl _ rfl | exact HO.cell 1 rfl _ rfl | exact HO.cell 2 rfl _ rfl | exact HO.cell 3 rfl _ rfl | exact HO.cell 4 rfl _ rfl)⟩ (fun hHeld => ?_)
            clear hK K
            refine norm_ (a' := ?_) ?_ ?_
            rotate_left
            · show Act.put _ (some 108) _ = _
              simp only [Act.put, List.setIfInBounds_toArray, List.set_cons_zero, List.set_cons_succ, i64_w, i32_w]
              rfl
            refine pure_ (i := 14) (N := some 109) (v := ?_) (a' := ?_) #[true, true, true, true, true, true, true, true, true, true, true, true, true, true, true, false] rfl rfl (by kernel_rfl) (fun _ _ _ h => h) (Or.inl ⟨by rfl, ?_⟩) ?_ ?_
            rotate_left
            · intro w'
              go_simp
              with_reducible rfl
            rotate_left
            · simp only [Act.put, List.setIfInBounds_toArray, List.set_cons_zero, List.set_cons_succ, i64_w, i32_w]
              rfl
            refine pure_ (i := 15) (N := some 110) (v := ?_) (a' := ?_) #[true, true, true, true, true, true, true, true, true, true, true, true, true, true, true, true] rfl rfl (by kernel_rfl) (fun _ _ _ h => h) (Or.inl ⟨by rfl, ?_⟩) ?_ ?_
            rotate_left
            · intro w'
              go_simp
              with_reducible rfl
            rotate_left
            · simp only [Act.put, List.setIfInBounds_toArray, List.set_cons_zero, List.set_cons_succ, i64_w, i32_w]
              rfl
            refine done_ (by kernel_rfl) ?_
            go_wp2_with (fail)
            go_roundg (len - (i + 1))
            case measure => omega
            case rel => exact ⟨i + 1, r, nx, rfl, by omega, rfl, by omega, by omega, HO.sub (by repeat (first | exact List.Sublist.refl _ | apply List.Sublist.cons_cons | apply List.Sublist.cons))⟩
end Go.Proofs.Ytmpoidkgjnkjcaa

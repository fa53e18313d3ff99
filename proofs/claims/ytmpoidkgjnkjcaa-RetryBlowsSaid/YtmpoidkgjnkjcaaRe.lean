/- The timer's and the fuse's contracts, said of what the caller owns; the reference's fuse; the chapter's example (alive). -/
import Derived.Test.YtmpoidkgjnkjcaaRd
namespace Go.Proofs.Ytmpoidkgjnkjcaa
set_option linter.unusedVariables false
set_option linter.unusedSimpArgs false
set_option linter.unnecessarySimpa false
open Go.RowKit Go.Proofs.YtmpoidkgjnkjcaaW.PrintLast
abbrev timl (b f m r nx : Int) : List Value := [.int .i64 b, .int .i64 f, .int .i64 m, .int .i64 r, .int .i64 nx]
abbrev fusl (b r k u : Int) : List Value := [.int .i64 b, .int .i64 r, .int .i64 k, .int .i64 u]
section
variable {w0 w : World} {L : List Ent} {g : Nat}
theorem own_draws (h : Own w0 w L) {w' : World} (hw : ∃ n, w' = w.drewN n) : Own w0 w' L := by
  obtain ⟨n, rfl⟩ := hw
  exact h.drewN n
theorem O_New (n f m : Int) (HO : Own w0 w L) (h : Rt.ok n f m = true) :
    Calls Try.prog 9 #[.int .i64 n, .int .i64 f, .int .i64 m] w fun e w' => ∃ g, e = .returned (.tuple #[.pointer (some ⟨g, 0, none⟩), .int .i64 0]) ∧ Own w0 w' ((g, CellsP 59 (timl n f m 0 0)) :: L) :=
  (New_yes n f m w h).mono fun _ _ ⟨he, hb, hw⟩ => ⟨_, he, HO.fresh hw (Nat.le_refl _) hb⟩
theorem O_Fail_over (b f m r nx now : Int) (HO : Own w0 w ((g, CellsP 59 (timl b f m r nx)) :: L)) (h0 : 0 ≤ r) (h5 : r ≤ 1000) (h6 : b < r + 1) :
    Calls Try.prog 11 #[.pointer (some ⟨g, 0, none⟩), .int .i64 now] w fun e w' => e = .returned (.tuple #[.int .i64 0, .bool false]) ∧ Own w0 w' ((g, CellsP 59 (timl b f m (r + 1) nx)) :: L) :=
  (Fail_over g b f m r nx now w (HO.heap_ 0 rfl) h0 h5 h6).mono fun _ _ ⟨he, hb, hg⟩ => ⟨he, HO.turned 0 rfl hg hb⟩
theorem O_Fail_yes (b f m r nx now : Int) (HO : Own w0 w ((g, CellsP 59 (timl b f m r nx)) :: L)) (h0 : 0 ≤ r) (h5 : r ≤ 1000) (h6 : r + 1 ≤ b) (h1 : 1 ≤ f) (h2 : f ≤ m) (h3 : m ≤ 1099511627776) :
    Calls Try.prog 11 #[.pointer (some ⟨g, 0, none⟩), .int .i64 now] w fun e w' => e = .returned (.tuple #[.int .i64 (Rt.held now + Rt.dbl f m r.toNat), .bool true]) ∧
      Own w0 w' ((g, CellsP 59 (timl b f m (r + 1) (Rt.held now + Rt.dbl f m r.toNat))) :: L) :=
  (Fail_yes g b f m r nx now w (HO.heap_ 0 rfl) h0 h5 h6 h1 h2 h3).mono fun _ _ ⟨he, hb, hg⟩ => ⟨he, HO.turned 0 rfl hg hb⟩
theorem O_Good (b f m r nx : Int) (HO : Own w0 w ((g, CellsP 59 (timl b f m r nx)) :: L)) :
    Calls Try.prog 13 #[.pointer (some ⟨g, 0, none⟩)] w fun e w' => e = .returned (.tuple #[]) ∧ Own w0 w' ((g, CellsP 59 (timl b f m 0 0)) :: L) :=
  (Good_any g b f m r nx w (HO.heap_ 0 rfl)).mono fun _ _ ⟨he, hb, hg⟩ => ⟨he, HO.turned 0 rfl hg hb⟩
theorem O_Ready (b f m r nx now : Int) (HO : Own w0 w ((g, CellsP 59 (timl b f m r nx)) :: L)) :
    Calls Try.prog 15 #[.pointer (some ⟨g, 0, none⟩), .int .i64 now] w fun e w' => e = .returned (.bool (Rt.may b r nx now)) ∧ Own w0 w' ((g, CellsP 59 (timl b f m r nx)) :: L) :=
  (Ready_any g b f m r nx now w (HO.heap_ 0 rfl)).mono fun _ _ ⟨he, hw⟩ => ⟨he, own_draws HO hw⟩
theorem O_Left (b f m r nx : Int) (HO : Own w0 w ((g, CellsP 59 (timl b f m r nx)) :: L)) (h0 : 0 ≤ r) (h1 : r ≤ 1001) (h2 : 0 ≤ b) (h3 : b ≤ 1000) :
    Calls Try.prog 17 #[.pointer (some ⟨g, 0, none⟩)] w fun e w' => e = .returned (.int .i64 (max (b - r) 0)) ∧ Own w0 w' ((g, CellsP 59 (timl b f m r nx)) :: L) :=
  (Left_any g b f m r nx w (HO.heap_ 0 rfl) h0 h1 h2 h3).mono fun _ _ ⟨he, hw⟩ => ⟨he, own_draws HO hw⟩
theorem O_NewFuse (n r : Int) (HO : Own w0 w L) (h : Rt.okf n r = true) :
    Calls Try.prog 19 #[.int .i64 n, .int .i64 r] w fun e w' => ∃ g, e = .returned (.tuple #[.pointer (some ⟨g, 0, none⟩), .int .i64 0]) ∧ Own w0 w' ((g, CellsP 65 (fusl n r 0 0)) :: L) :=
  (NewFuse_yes n r w h).mono fun _ _ ⟨he, hb, hw⟩ => ⟨_, he, HO.fresh hw (Nat.le_refl _) hb⟩
theorem O_Tell_whole (b r k u now : Int) (HO : Own w0 w ((g, CellsP 65 (fusl b r k u)) :: L)) :
    Calls Try.prog 21 #[.pointer (some ⟨g, 0, none⟩), .int .i64 now, .bool true] w fun e w' => e = .returned (.tuple #[]) ∧ Own w0 w' ((g, CellsP 65 (fusl b r 0 0)) :: L) :=
  (Tell_whole g b r k u now w (HO.heap_ 0 rfl)).mono fun _ _ ⟨he, hb, hg⟩ => ⟨he, HO.turned 0 rfl hg hb⟩
theorem O_Tell_fails (b r k u now : Int) (HO : Own w0 w ((g, CellsP 65 (fusl b r k u)) :: L)) (h0 : 0 ≤ k) (h1 : k < 1000) (h2 : 1 ≤ r) (h3 : r ≤ 1099511627776) :
    Calls Try.prog 21 #[.pointer (some ⟨g, 0, none⟩), .int .i64 now, .bool false] w fun e w' => e = .returned (.tuple #[]) ∧ Own w0 w' ((g, CellsP 65 (fusl b r (k + 1) (if b ≤ k + 1 then Rt.held now + r else u))) :: L) :=
  (Tell_fails g b r k u now w (HO.heap_ 0 rfl) h0 h1 h2 h3).mono fun _ _ ⟨he, hb, hg⟩ => ⟨he, HO.turned 0 rfl hg hb⟩
theorem O_May (b r k u now : Int) (HO : Own w0 w ((g, CellsP 65 (fusl b r k u)) :: L)) :
    Calls Try.prog 22 #[.pointer (some ⟨g, 0, none⟩), .int .i64 now] w fun e w' => e = .returned (.bool (decide (u ≤ Rt.held now))) ∧ Own w0 w' ((g, CellsP 65 (fusl b r k u)) :: L) :=
  (May_any g b r k u now w (HO.heap_ 0 rfl)).mono fun _ _ ⟨he, hw⟩ => ⟨he, own_draws HO hw⟩
end
set_option maxHeartbeats 4000000 in
theorem alive_any (w : World) : Calls Try.prog 8 #[] w fun e w' => e = .returned (.bool true) ∧ Below w.heap.size w w' := by
  have HO := Own.nil w
  go_enter Try.func8, Try.ntmps8
  go_wp2_with (first | (go_at_call 9; refine (O_New _ _ _ HO (by decide)).mono ?_; rintro e w1 ⟨gt, rfl, HO1⟩; clear HO; have HO := HO1; clear HO1) | (refine li_bslice 57 1 rfl rfl (by go_simp; rfl) rfl (by decide) HO ?_; clear HO; intro gs w1 HO))
  replace HO := HO.front 1 rfl
  simp only [List.eraseIdx_cons_succ, List.eraseIdx_cons_zero] at HO
  go_loopg [15] 4 (fun k i wr => (k = 4 ∧ i = .int .i64 0 ∧ Own w wr [(gt, CellsP 59 (timl 3 2 5 0 0)), (gs, RowP 2 1 4 [.int .i64 10, .int .i64 12, .int .i64 16, .int .i64 21])]) ∨ (k = 3 ∧ i = .int .i64 1 ∧ Own w wr [(gt, CellsP 59 (timl 3 2 5 1 12)), (gs, RowP 2 1 4 [.int .i64 10, .int .i64 12, .int .i64 16, .int .i64 21])]) ∨ (k = 2 ∧ i = .int .i64 2 ∧ Own w wr [(gt, CellsP 59 (timl 3 2 5 2 16)), (gs, RowP 2 1 4 [.int .i64 10, .int .i64 12, .int .i64 16, .int .i64 21])]) ∨ (k = 1 ∧ i = .int .i64 3 ∧ Own w wr [(gt, CellsP 59 (timl 3 2 5 3 21)), (gs, RowP 2 1 4 [.int .i64 10, .int .i64 12, .int .i64 16, .int .i64 21])]) ∨ (k = 0 ∧ i = .int .i64 4 ∧ Own w wr [(gt, CellsP 59 (timl 3 2 5 4 21)), (gs, RowP 2 1 4 [.int .i64 10, .int .i64 12, .int .i64 16, .int .i64 21])]))
  case atStart => exact .inl ⟨rfl, rfl, HO⟩
  case round =>
    clear HO
    rcases hrel with ⟨rfl, rfl, HO⟩ | ⟨rfl, rfl, HO⟩ | ⟨rfl, rfl, HO⟩ | ⟨rfl, rfl, HO⟩ | ⟨rfl, rfl, HO⟩
    · have e1 : Rt.held 10 + Rt.dbl 2 5 (0 : Int).toNat = 12 := by decide
      go_wp2_with (first | (refine li_loadRow 1 2 rfl rfl rfl HO rfl rfl (by kernel_rfl) ?_) | (refine li_loadRow 0 2 rfl rfl rfl HO rfl rfl (by kernel_rfl) ?_) | (refine li_bslice 57 1 rfl rfl (by go_simp; rfl) rfl (by decide) HO ?_; clear HO; intro gs2 w3 HO) | (go_at_call 11; refine (O_Fail_yes 3 2 5 0 0 10 HO (by decide) (by decide) (by decide) (by decide) (by decide) (by decide)).mono ?_; rintro e w2 ⟨rfl, HO1⟩; rw [e1] at HO1; clear HO; have HO := HO1; clear HO1))
      go_roundg 3
      case measure => decide
      case rel => exact .inr (.inl ⟨rfl, rfl, HO.tail⟩)
    · have e1 : Rt.held 12 + Rt.dbl 2 5 (1 : Int).toNat = 16 := by decide
      go_wp2_with (first | (refine li_loadRow 1 2 rfl rfl rfl HO rfl rfl (by kernel_rfl) ?_) | (refine li_loadRow 0 2 rfl rfl rfl HO rfl rfl (by kernel_rfl) ?_) | (refine li_bslice 57 1 rfl rfl (by go_simp; rfl) rfl (by decide) HO ?_; clear HO; intro gs2 w3 HO) | (go_at_call 11; refine (O_Fail_yes 3 2 5 1 12 12 HO (by decide) (by decide) (by decide) (by decide) (by decide) (by decide)).mono ?_; rintro e w2 ⟨rfl, HO1⟩; rw [e1] at HO1; clear HO; have HO := HO1; clear HO1))
      go_roundg 2
      case measure => decide
      case rel => exact .inr (.inr (.inl ⟨rfl, rfl, HO.tail⟩))
    · have e1 : Rt.held 16 + Rt.dbl 2 5 (2 : Int).toNat = 21 := by decide
      go_wp2_with (first | (refine li_loadRow 1 2 rfl rfl rfl HO rfl rfl (by kernel_rfl) ?_) | (refine li_loadRow 0 2 rfl rfl rfl HO rfl rfl (by kernel_rfl) ?_) | (refine li_bslice 57 1 rfl rfl (by go_simp; rfl) rfl (by decide) HO ?_; clear HO; intro gs2 w3 HO) | (go_at_call 11; refine (O_Fail_yes 3 2 5 2 16 16 HO (by decide) (by decide) (by decide) (by decide) (by decide) (by decide)).mono ?_; rintro e w2 ⟨rfl, HO1⟩; rw [e1] at HO1; clear HO; have HO := HO1; clear HO1))
      go_roundg 1
      case measure => decide
      case rel => exact .inr (.inr (.inr (.inl ⟨rfl, rfl, HO.tail⟩)))
    · go_wp2_with (first | (refine li_loadRow 1 2 rfl rfl rfl HO rfl rfl (by kernel_rfl) ?_) | (refine li_loadRow 0 2 rfl rfl rfl HO rfl rfl (by kernel_rfl) ?_) | (refine li_bslice 57 1 rfl rfl (by go_simp; rfl) rfl (by decide) HO ?_; clear HO; intro gs2 w3 HO) | (go_at_call 11; refine (O_Fail_over 3 2 5 3 21 21 HO (by decide) (by decide) (by decide)).mono ?_; rintro e w2 ⟨rfl, HO1⟩; clear HO; have HO := HO1; clear HO1))
      go_roundg 0
      case measure => decide
      case rel => exact .inr (.inr (.inr (.inr (⟨rfl, rfl, HO.tail⟩))))
    · have e2 : Rt.may 3 4 21 100 = false := by decide
      go_wp2_with (first | (go_at_call 15; refine (O_Ready 3 2 5 4 21 100 HO).mono ?_; rintro e w2 ⟨rfl, HO1⟩; clear HO; have HO := HO1; clear HO1) | (go_at_call 17; refine (O_Left 3 2 5 4 21 HO (by decide) (by decide) (by decide) (by decide)).mono ?_; rintro e w2 ⟨rfl, HO1⟩; clear HO; have HO := HO1; clear HO1))
      go_ret
      exact ⟨ret_b (by decide), HO.below⟩
end Go.Proofs.Ytmpoidkgjnkjcaa

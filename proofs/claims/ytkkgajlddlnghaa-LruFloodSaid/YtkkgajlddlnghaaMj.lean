/- Both lists behind some calls. -/
import Derived.Test.YtkkgajlddlnghaaMi
namespace Go.Proofs.Ytkkgajlddlnghaa
set_option linter.unusedVariables false
set_option linter.unusedSimpArgs false
set_option linter.unnecessarySimpa false
open Go.RowKit Go.Proofs.YtkkgajlddlnghaaW.PrintLast Lr
def actRow (a : Lr.Act) : List Value := [.int .i64 a.1, .int .i64 a.2.1, .int .i64 a.2.2]
section
variable {w0 w : World} {L E1 E2 : List Ent} {g m b c : Nat} {s : S}
theorem QDo (a : Lr.Act) (h1 : LQ g b s E1) (h2 : RP m s E2) (HO : Own w0 w (E1 ++ (E2 ++ L))) (K : Ok s c) (hc : c ≤ 1000) (hw : (Lit.int .i64 a.2.1).wf = true) (hb : b ≤ 900000000) :
    Calls Try.prog 13 #[.pointer (some ⟨g, 0, none⟩), .pointer (some ⟨m, 0, none⟩), .agg ⟨actRow a⟩] w fun e w' => ∃ E3 E4, e = .returned (.bool true) ∧ LQ g (b + 2000) (Lr.step s a) E3 ∧ RP m (Lr.step s a) E4 ∧ Own w0 w' (E3 ++ (E4 ++ L)) := by
  obtain ⟨n, hn, hp⟩ := h1
  exact (do_any a.1 a.2.1 a.2.2 ⟨E1, E2, hp, h2, HO⟩ K (by omega) hw (by omega)).mono fun _ _ ⟨he, E3, E4, h3, h4, h5⟩ => ⟨E3, E4, he, ⟨_, by omega, h3⟩, h4, h5⟩
end
namespace Lr
theorem run_take (s : S) (acts : List Act) (i : Nat) (a : Act) (h : acts[i]? = some a) : run s (acts.take (i + 1)) = Lr.step (run s (acts.take i)) a := by
  unfold run
  rw [List.take_add_one, h, List.foldl_append]; rfl
/-- What 'run' lets in. -/
def may (kept : Int) (acts : List Act) : Prop := 0 ≤ kept ∧ kept ≤ 1152921504606846976 ∧ acts.length ≤ 60
end Lr
set_option maxRecDepth 20000 in
set_option maxHeartbeats 8000000 in
theorem run_no {w0 w : World} {L : List Ent} {v : Value} {acts : List Lr.Act} (kept : Int) (HO : Own w0 w L) (ha : ArgS w0 3 v (acts.map actRow)) (h : ¬ may kept acts) :
    Calls Try.prog 23 #[.int .i64 kept, v] w fun e w' => ∃ m, e = .returned (.tuple #[.pointer none, .pointer (some ⟨m, 0, none⟩)]) ∧ Own w0 w' L := by
  obtain ⟨ao, cap, rfl, _, _, _⟩ := ha
  rw [List.length_map]
  obtain ⟨N, hN⟩ : ∃ N, acts.length = N := ⟨_, rfl⟩
  unfold may at h
  rw [hN] at h ⊢
  by_cases hk : kept < 0 ∨ 1152921504606846976 < kept
  · have F := Lib.hid (fun w => LNew_no (w := w) kept hk)
    clear h hk hN
    go_enter Try.func23, Try.ntmps23
    go_wp2_with (fail)
    go_at_call 11; refine (F.out _).mono ?_; rintro e w1 ⟨rfl, rfl⟩
    go_wp2_with (refine li_boxAgg 32 rfl rfl rfl HO ?_; clear HO; intro gb wb HO)
    go_ret2
    exact ⟨gb, rfl, HO.tail⟩
  · have h60 : (60 : Int) < (N : Int) := by omega
    have hk0 : 0 ≤ kept := by omega
    have hk1 : kept ≤ 1152921504606846976 := by omega
    have d1 : decide (0 ≤ kept) = true := decide_eq_true hk0
    have d2 : decide (kept ≤ 1152921504606846976) = true := decide_eq_true hk1
    have hd : decide ((60 : Int) < (N : Int)) = true := decide_eq_true h60
    have HKK := Lib.hid (show 0 ≤ kept ∧ kept ≤ 1152921504606846976 from ⟨hk0, hk1⟩)
    clear h hk h60 hk0 hk1 hN
    go_enter Try.func23, Try.ntmps23
    go_wp2_with (fail)
    go_at_call 11; refine (QNew kept HO HKK.out.1 HKK.out.2).mono ?_; rintro e w1 ⟨g, E, rfl, hP, HO1⟩
    clear HO
    have HO := HO1
    clear HO1 hP
    go_wp2_with (refine li_boxAgg 32 rfl rfl rfl HO ?_; clear HO; intro gb wb HO)
    go_at_call 12; refine (may_any kept _).mono ?_; rw [d1, d2]; rintro e w1 ⟨rfl, rfl⟩
    go_wp2_with (fail)
    go_ret2
    exact ⟨gb, rfl, HO.tail.sub (List.sublist_append_right E L)⟩
set_option maxRecDepth 20000 in
set_option maxHeartbeats 16000000 in
theorem run_yes {w0 w : World} {L : List Ent} {v : Value} {acts : List Lr.Act} (kept : Int) (HO : Own w0 w L) (ha : ArgS w0 3 v (acts.map actRow)) (hwf : ∀ a ∈ acts, (Lit.int .i64 a.2.1).wf = true) (h : may kept acts) :
    Calls Try.prog 23 #[.int .i64 kept, v] w fun e w' => ∃ g m E1 E2, e = .returned (.tuple #[.pointer (some ⟨g, 0, none⟩), .pointer (some ⟨m, 0, none⟩)]) ∧ LQ g 120000 (run ⟨kept, [], []⟩ acts) E1 ∧ RP m (run ⟨kept, [], []⟩ acts) E2 ∧ Own w0 w' (E1 ++ (E2 ++ L)) := by
  obtain ⟨ao, cap, rfl, _, _, hrd⟩ := ha
  rw [List.length_map]
  obtain ⟨N, hN⟩ : ∃ N, acts.length = N := ⟨_, rfl⟩
  obtain ⟨hk0, hk1, hN60⟩ := h
  rw [hN] at hN60 ⊢
  have d1 : decide (0 ≤ kept) = true := decide_eq_true hk0
  have d2 : decide (kept ≤ 1152921504606846976) = true := decide_eq_true hk1
  have hd : decide ((60 : Int) < (N : Int)) = false := decide_eq_false (by omega)
  have K0 := Lib.hid (ok_new kept hk0 hk1)
  have HKK := Lib.hid (show 0 ≤ kept ∧ kept ≤ 1152921504606846976 from ⟨hk0, hk1⟩)
  have HRD := Lib.hid hrd
  have HN := Lib.hid hN
  have HWF := Lib.hid hwf
  have H60 := Lib.hid hN60
  clear hk0 hk1 hrd hN hwf
  go_enter Try.func23, Try.ntmps23
  go_wp2_with (fail)
  go_at_call 11; refine (QNew kept HO HKK.out.1 HKK.out.2).mono ?_; rintro e w1 ⟨g, E, rfl, hP, HO1⟩
  clear HO
  have HO := HO1
  have HP := Lib.hid hP
  clear HO1 hP
  go_wp2_with (refine li_boxAgg 32 rfl rfl rfl HO ?_; clear HO; intro gb wb HO)
  go_at_call 12; refine (may_any kept _).mono ?_; rw [d1, d2]; rintro e w1 ⟨rfl, rfl⟩
  have HO1 : Own w0 wb (E ++ ([(gb, CellsP 32 [.int .i64 kept, .slice none 0 0, .slice none 0 0])] ++ L)) := HO.perm List.perm_middle.symm
  have RP0 : RP gb ⟨kept, [], []⟩ [(gb, CellsP 32 [.int .i64 kept, .slice none 0 0, .slice none 0 0])] := ⟨_, _, [], [], .nil rfl, .nil rfl, rfl⟩
  have HRP0 := Lib.hid RP0
  clear HO RP0
  go_wp2_with (fail)
  go_loopg [34] N (fun q x wr => ∃ (i : Nat) (E1 E2 : List Ent), x = .int .i64 (i : Int) ∧ i ≤ N ∧ q = N - i ∧ Hid (LQ g (2000 * i) (run ⟨kept, [], []⟩ (acts.take i)) E1) ∧ Hid (RP gb (run ⟨kept, [], []⟩ (acts.take i)) E2) ∧ Hid (Ok (run ⟨kept, [], []⟩ (acts.take i)) i) ∧ Own w0 wr (E1 ++ (E2 ++ L)))
  case atStart => exact ⟨0, E, _, by rfl, by omega, by omega, HP, HRP0, K0, HO1⟩
  case round =>
    clear HO1 HP HRP0 E
    obtain ⟨i, E1, E2, rfl, i1, hq, h1, h2, hK, HO⟩ := hrel
    rcases Nat.lt_or_ge i N with hi | hi
    · have hdi : decide ((i : Int) < (N : Int)) = true := decide_eq_true (by omega)
      have hwi : IntKind.i64.wrap ((i : Int) + 1) = ((i + 1 : Nat) : Int) := by rw [IntWalk.i64_in _ (by omega)]; rfl
      have hb0 : (0 : Int) ≤ (i : Int) := by omega
      have hb1 : (i : Int) < (N : Int) := by omega
      obtain ⟨⟨q1, k1, n1⟩, hact⟩ : ∃ p, acts[i]? = some p := ⟨_, List.getElem?_eq_getElem (by rw [HN.out]; exact hi)⟩
      obtain ⟨ad, rfl, hcell⟩ := HRD.out i (actRow (q1, k1, n1)) (by simp [hact])
      have HC := Lib.hid hcell
      have hst := Lib.hid (run_take ⟨kept, [], []⟩ acts i _ hact)
      have hkw := Lib.hid (HWF.out _ (List.mem_of_getElem? hact))
      have HI := Lib.hid hi
      have HQ := Lib.hid hq
      clear hact hcell hi hq
      go_wp2_with (first | (refine li_loadAggAt 34 3 (vs := [.int .i64 q1, .int .i64 k1, .int .i64 n1]) rfl rfl rfl (fun j x hj => HO.old (HC.out j x hj)) rfl (by kernel_rfl) (by kernel_rfl) (by kernel_rfl) ?_) | (refine li_alloc (t := 34) rfl rfl (z := .agg #[.int .i64 0, .int .i64 0, .int .i64 0]) (cs := [.int .i64 0, .int .i64 0, .int .i64 0]) (by kernel_rfl) rfl HO ?_; clear HO; intro ga wa HO) | (refine li_storeAgg 0 34 rfl rfl rfl rfl HO rfl rfl rfl rfl (by kernel_rfl) ?_; clear HO; intro ws HO; simp only [List.set_cons_zero] at HO) | (refine li_loadWhole 0 34 3 rfl rfl rfl HO rfl rfl (by kernel_rfl) (by kernel_rfl) (by kernel_rfl) ?_))
      have HO1 := HO.tail
      clear HO
      go_at_call 13; refine (QDo (q1, k1, n1) h1.out h2.out HO1 hK.out (by omega) hkw.out (by omega)).mono ?_; rw [← hst.out]; rintro e w3 ⟨E3, E4, rfl, h3, h4, HO3⟩
      clear HO1
      have H3 := Lib.hid (show LQ g (2000 * (i + 1)) _ E3 from h3)
      have H4 := Lib.hid h4
      have hK1 := Lib.hid (show Ok (run ⟨kept, [], []⟩ (acts.take (i + 1))) (i + 1) by rw [hst.out]; exact step_ok hK.out _ hkw.out)
      clear h3 h4
      go_wp2_with (fail)
      go_roundg (N - (i + 1))
      case measure => have := HI.out; have := HQ.out; omega
      case rel => exact ⟨i + 1, E3, E4, rfl, by have := HI.out; omega, rfl, H3, H4, hK1, HO3⟩
    · obtain rfl : i = N := by omega
      have hdi : decide ((i : Int) < (i : Int)) = false := by simp
      rw [List.take_of_length_le (by rw [HN.out]; omega)] at h1 h2
      go_wp2_with (fail)
      go_ret2
      exact ⟨g, gb, E1, E2, rfl, h1.out.mono (by omega), h2.out, HO⟩
end Go.Proofs.Ytkkgajlddlnghaa

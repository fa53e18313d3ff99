/- In every order of calls all go in the order that the document says. -/
import Derived.Test.YtkkgajlddlnghaaNe
namespace Go.Proofs.Ytkkgajlddlnghaa
set_option linter.unusedVariables false
set_option linter.unusedSimpArgs false
set_option linter.unnecessarySimpa false
open Go.RowKit Go.Proofs.YtkkgajlddlnghaaW.PrintLast Lr
set_option maxRecDepth 20000 in
set_option maxHeartbeats 16000000 in
theorem LruPlays_any (kept : Int) (v : Value) (acts : List Lr.Act) (k : Int) (w : World) (ha : ArgS w 3 v (acts.map actRow)) (hwf : ∀ a ∈ acts, (Lit.int .i64 a.2.1).wf = true) (hw : (Lit.int .i64 k).wf = true) :
    Calls Try.prog 3 #[.int .i64 kept, v, .int .i64 k] w fun e w' => e = .returned (.bool true) ∧ Below w.heap.size w w' := by
  have HO := Own.nil w
  obtain ⟨ao, cap, rfl, _, _, hrd⟩ := ha
  rw [List.length_map]
  obtain ⟨N, hN⟩ : ∃ N, acts.length = N := ⟨_, rfl⟩
  rw [hN]
  have HN := Lib.hid hN
  have HRD := Lib.hid hrd
  have HWF := Lib.hid hwf
  have HW := Lib.hid hw
  clear hN hrd hwf hw
  by_cases h60 : 60 < N
  · have hd : decide ((60 : Int) < (N : Int)) = true := decide_eq_true (by omega)
    clear h60
    go_enter Try.func3, Try.ntmps3
    go_wp2_with (fail)
    go_at_call 10; refine (awake_any HO).mono ?_; rintro e w2 ⟨rfl, HO1⟩
    clear HO
    go_wp2_with (fail)
    go_at_call 10; refine (awake_any HO1).mono ?_; rintro e w2 ⟨rfl, HO2⟩
    clear HO1
    go_wp2_with (fail)
    go_ret
    exact ⟨rfl, HO2.below⟩
  have hd : decide ((60 : Int) < (N : Int)) = false := decide_eq_false (by omega)
  have H60 := Lib.hid (show N ≤ 60 by omega)
  clear h60
  by_cases hkb : kept < 0 ∨ 1152921504606846976 < kept
  · have F := Lib.hid (fun w => LNew_no (w := w) kept hkb)
    have dm : (decide (0 ≤ kept) && decide (kept ≤ 1152921504606846976)) = false := by
      rcases hkb with h | h
      · rw [decide_eq_false (by omega)]; rfl
      · rw [decide_eq_false (p := kept ≤ 1152921504606846976) (by omega)]; simp
    have DM := Lib.hid dm
    clear hkb dm
    go_enter Try.func3, Try.ntmps3
    go_wp2_with (fail)
    go_at_call 10; refine (awake_any HO).mono ?_; rintro e w2 ⟨rfl, HO1⟩
    clear HO
    go_wp2_with (fail)
    go_at_call 11; refine (F.out _).mono ?_; rintro e w3 ⟨rfl, rfl⟩
    go_wp2_with (fail)
    go_at_call 12; refine (may_any kept _).mono ?_; rw [DM.out]; rintro e w4 ⟨rfl, rfl⟩
    go_wp2_with (fail)
    go_ret
    exact ⟨rfl, HO1.below⟩
  have HKK := Lib.hid (show 0 ≤ kept ∧ kept ≤ 1152921504606846976 by omega)
  have DM := Lib.hid (show (decide (0 ≤ kept) && decide (kept ≤ 1152921504606846976)) = true by rw [decide_eq_true (p := 0 ≤ kept) (by omega), decide_eq_true (p := kept ≤ 1152921504606846976) (by omega)]; rfl)
  have K0 := Lib.hid (ok_new kept HKK.out.1 HKK.out.2)
  clear hkb
  go_enter Try.func3, Try.ntmps3
  go_wp2_with (fail)
  go_at_call 10; refine (awake_any HO).mono ?_; rintro e w2 ⟨rfl, HO1⟩
  clear HO
  go_wp2_with (fail)
  go_at_call 11; refine (QNew kept HO1 HKK.out.1 HKK.out.2).mono ?_; rintro e w3 ⟨g, E, rfl, hP, HO⟩
  clear HO1
  have HP := Lib.hid hP
  clear hP
  go_wp2_with (fail)
  go_at_call 12; refine (may_any kept _).mono ?_; rw [DM.out]; rintro e w4 ⟨rfl, rfl⟩
  go_wp2_with (refine li_boxAgg 32 rfl rfl rfl HO ?_; clear HO; intro gb wb HO)
  have HO1 : Own w wb (E ++ ([(gb, CellsP 32 [.int .i64 kept, .slice none 0 0, .slice none 0 0])] ++ [])) := HO.perm List.perm_middle.symm
  have RP0 : RP gb ⟨kept, [], []⟩ [(gb, CellsP 32 [.int .i64 kept, .slice none 0 0, .slice none 0 0])] := ⟨_, _, [], [], .nil rfl, .nil rfl, rfl⟩
  have HRP0 := Lib.hid RP0
  clear HO RP0
  go_loopg [53] N (fun q x wr => ∃ (i : Nat) (E1 E2 : List Ent), x = .int .i64 (i : Int) ∧ i ≤ N ∧ q = N - i ∧ Hid (LQ g (2000 * i) (run ⟨kept, [], []⟩ (acts.take i)) E1) ∧ Hid (RP gb (run ⟨kept, [], []⟩ (acts.take i)) E2) ∧ Hid (Ok (run ⟨kept, [], []⟩ (acts.take i)) i) ∧ Own w wr (E1 ++ (E2 ++ [])))
  case atStart => exact ⟨0, E, _, by rfl, by omega, by omega, HP, HRP0, K0, HO1⟩
  case round =>
    clear HO1 HP HRP0 E
    obtain ⟨i, E1, E2, rfl, i1, hq, h1, h2, hK, HO⟩ := hrel
    rcases Nat.lt_or_ge i N with hi | hi
    · have hdi : decide ((i : Int) < (N : Int)) = true := decide_eq_true (by omega)
      have hwi : IntKind.i64.wrap ((i : Int) + 1) = ((i + 1 : Nat) : Int) := by rw [IntWalk.i64_in _ (by have := H60.out; omega)]; rfl
      have hb0 : (0 : Int) ≤ (i : Int) := by omega
      have hb1 : (i : Int) < (N : Int) := by omega
      obtain ⟨⟨q1, k1, n1⟩, hact⟩ : ∃ p, acts[i]? = some p := ⟨_, List.getElem?_eq_getElem (by rw [HN.out]; exact hi)⟩
      obtain ⟨ad, rfl, hcell⟩ := HRD.out i (actRow (q1, k1, n1)) (by simp [hact])
      have HC := Lib.hid hcell
      have hst := Lib.hid (run_take ⟨kept, [], []⟩ acts i _ hact)
      have hkw := Lib.hid (HWF.out _ (List.mem_of_getElem? hact))
      have HI := Lib.hid hi
      have HQ := Lib.hid hq
      clear hact hcell hi hq
      go_wp2_with (first | (refine li_loadAggAt 34 3 (vs := [.int .i64 q1, .int .i64 k1, .int .i64 n1]) rfl rfl rfl (fun j x hj => HO.old (HC.out j x hj)) rfl (by kernel_rfl) (by kernel_rfl) (by kernel_rfl) ?_) | (refine li_alloc (t := 34) rfl rfl (z := .agg #[.int .i64 0, .int .i64 0, .int .i64 0]) (cs := [.int .i64 0, .int .i64 0, .int .i64 0]) (by kernel_rfl) rfl HO ?_; clear HO; intro ga wa HO) | (refine li_storeAgg 0 34 rfl rfl rfl rfl HO rfl rfl rfl rfl (by kernel_rfl) ?_; clear HO; intro ws HO; simp only [List.set_cons_zero] at HO) | (refine li_loadWhole 0 34 3 rfl rfl rfl HO rfl rfl (by kernel_rfl) (by kernel_rfl) (by kernel_rfl) ?_))
      have HO1 := HO.tail
      clear HO
      go_at_call 13; refine (QDo (q1, k1, n1) h1.out h2.out HO1 hK.out (by have := H60.out; omega) hkw.out (by have := H60.out; omega)).mono ?_; rw [← hst.out]; rintro e w3 ⟨E3, E4, rfl, h3, h4, HO3⟩
      clear HO1
      have hK1 := Lib.hid (show Ok (run ⟨kept, [], []⟩ (acts.take (i + 1))) (i + 1) by rw [hst.out]; exact step_ok hK.out _ hkw.out)
      have hK2 := Lib.hid (hK1.out.mono (show i + 1 ≤ 100 by have := H60.out; have := HI.out; omega))
      go_wp2_with (fail)
      go_at_call 15; refine (QOrder h3 HO3 hK2.out (by decide)).mono ?_; rintro e w8 ⟨E8, v1, Eo, rfl, hv1, h8, HO1⟩
      clear HO3 h3
      go_wp2_with (fail)
      go_at_call 16; refine (ROrder_any (h4.rw HO1.third) (Nat.le_trans hK2.out.len (by decide))).mono ?_; rintro e w9 ⟨v2, Er, rfl, hv2, HR⟩
      obtain ⟨E9, h9, HO2⟩ := HR.open_
      clear HO1 h4 HR
      go_wp2_with (fail)
      go_at_call 14; refine (Same_eq (hv1.ri HO2 (fun x hx => by simp [hx])) (hv2.ri HO2 (fun x hx => by simp [hx])) (by unfold order; rw [List.length_map]; exact Nat.le_trans hK2.out.len (by decide))).mono ?_; rintro e w10 ⟨rfl, nd, rfl⟩
      have HO4 : Own w (w9.drewN nd) (E8 ++ (E9 ++ [])) := ((HO2.third).drewN nd).sub (List.Sublist.append_left (List.Sublist.append_left (by simp) _) _)
      have H8 := Lib.hid (show LQ g (2000 * (i + 1)) _ E8 from h8)
      have H9 := Lib.hid h9
      clear HO2 hv1 hv2 h8 h9
      go_wp2_with (fail)
      go_roundg (N - (i + 1))
      case measure => have := HI.out; have := HQ.out; omega
      case rel => exact ⟨i + 1, E8, E9, rfl, by have := HI.out; omega, rfl, H8, H9, hK1, HO4⟩
    · obtain rfl : i = N := by omega
      have hdi : decide ((i : Int) < (i : Int)) = false := by simp
      rw [List.take_of_length_le (by rw [HN.out]; omega)] at h1 h2 hK
      obtain ⟨s, hs⟩ : ∃ s, run ⟨kept, [], []⟩ acts = s := ⟨_, rfl⟩
      rw [hs] at h1 h2 hK
      have hK2 := Lib.hid (hK.out.mono (show i ≤ 100 by have := H60.out; omega))
      obtain ⟨P, hP⟩ : ∃ P, sum s.trial + sum s.kept = P := ⟨_, rfl⟩
      obtain ⟨Q, hQ⟩ : ∃ Q, sum s.kept = Q := ⟨_, rfl⟩
      obtain ⟨X, hX⟩ : ∃ X, (has s k).getD 0 = X := ⟨_, rfl⟩
      obtain ⟨Y, hY⟩ : ∃ Y, isIn s k = Y := ⟨_, rfl⟩
      obtain ⟨Z, hZ⟩ : ∃ Z, isKept s k = Z := ⟨_, rfl⟩
      have e1 : (P == P) = true := by simp
      have e2 : (Q == Q) = true := by simp
      have e3 : (X == X) = true := by simp
      have e4 : (Y == Y) = true := by simp
      have e5 : (Z == Z) = true := by simp
      have HPP := Lib.hid hP
      have HQQ := Lib.hid hQ
      have HXX := Lib.hid hX
      have HYY := Lib.hid hY
      have HZZ := Lib.hid hZ
      clear hs hK hP hQ hX hY hZ
      go_wp2_with (fail)
      go_at_call 17; refine (QBytes h1.out HO).mono ?_; rw [HPP.out, HQQ.out]; rintro e w4 ⟨E4, rfl, h4, HO1⟩
      clear HO h1
      go_wp2_with (fail)
      go_at_call 18; refine (RBytes_any (h2.out.rw HO1.mid) hK2.out (by decide)).mono ?_; rw [HPP.out, HQQ.out]; rintro e w5 ⟨rfl, HR⟩
      obtain ⟨E5, h5, HO2⟩ := HR.open_
      clear HO1 h2 HR
      go_wp2_with (fail)
      go_at_call 19; refine (QHas k h4 HO2.mid hK2.out HW.out).mono ?_; rw [HXX.out, HYY.out]; rintro e w6 ⟨E6, rfl, h6, HO3⟩
      clear HO2 h4
      go_wp2_with (fail)
      go_at_call 20; refine (RHas_any k (h5.rw HO3.mid) (Nat.le_trans hK2.out.len (by decide))).mono ?_; rw [HXX.out, HYY.out]; rintro e w7 ⟨rfl, HR⟩
      obtain ⟨E7, h7, HO4⟩ := HR.open_
      clear HO3 h5 HR
      go_wp2_with (fail)
      go_at_call 21; refine (QKept k h6 HO4.mid hK2.out HW.out).mono ?_; rw [HZZ.out]; rintro e w8 ⟨E8, rfl, h8, HO5⟩
      clear HO4 h6
      go_wp2_with (fail)
      go_at_call 22; refine (RIsKept_any k (h7.rw HO5.mid) (by have := hK2.out.len; unfold all at this; simp at this; omega)).mono ?_; rw [HZZ.out]; rintro e w9 ⟨rfl, rfl⟩
      go_wp2_with (fail)
      go_ret
      exact ⟨rfl, HO5.below⟩
end Go.Proofs.Ytkkgajlddlnghaa

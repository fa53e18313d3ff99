/- Plain laws of the lists, for the statements; what is dropped. -/
import Derived.Test.YtkkgajlddlnghaaMj
namespace Go.Proofs.Ytkkgajlddlnghaa
set_option linter.unusedVariables false
set_option linter.unusedSimpArgs false
set_option linter.unnecessarySimpa false
open Go.RowKit Go.Proofs.YtkkgajlddlnghaaW.PrintLast Lr
namespace Lr
theorem isIn_false_iff {s : S} {k : Int} : isIn s k = false ↔ ∀ x ∈ all s, x.1 ≠ k := by
  unfold isIn
  rw [← idx_none]
  cases idx (all s) k <;> simp
theorem dropped_out {s : S} {c : Nat} (K : Ok s c) (k : Int) : isIn (dropped s k) k = false := by
  unfold dropped
  cases h : take s k with
  | none => exact take_none.1 h
  | some p =>
    obtain ⟨x, s1⟩ := p
    have h1 := (take_some h).1
    have h2 := fresh_of_take K h
    exact isIn_false_iff.2 fun y hy e => h2 y hy (by rw [e, h1])
theorem dropped_same {s : S} {k : Int} (h : isIn s k = false) : dropped s k = s := by
  unfold dropped
  rw [take_none.2 h]
theorem touched_same {s : S} {k : Int} (h : isIn s k = false) : touched s k = s := by
  unfold touched
  rw [take_none.2 h]
theorem addE_fresh {s : S} {k n : Int} (h : isIn s k = false) (h1 : 1 ≤ n) (h2 : n ≤ 1099511627776) : addE s k n = 0 := by
  unfold addE
  rw [if_neg (by omega)]
  unfold isIn at h
  rw [if_neg (by simp [h])]
theorem addE_in {s : S} {k n : Int} (h : isIn s k = true) : addE s k n ≠ 0 ∧ add s k n = s := by
  have h1 : addE s k n ≠ 0 := by
    unfold addE
    by_cases hb : n < 1 ∨ 1099511627776 < n
    · rw [if_pos hb]; decide
    · rw [if_neg hb]
      unfold isIn at h
      rw [if_pos h]; decide
  exact ⟨h1, by unfold add; rw [if_neg h1]⟩
theorem addE_bad {s : S} {k n : Int} (h : n < 1 ∨ 1099511627776 < n) : addE s k n = 1 ∧ add s k n = s := by
  have h1 : addE s k n = 1 := by unfold addE; rw [if_pos h]
  exact ⟨h1, by unfold add; rw [h1]; rfl⟩
theorem add_kept (s : S) (k n : Int) : (add s k n).kept = s.kept := by
  unfold add
  split <;> rfl
theorem add_most (s : S) (k n : Int) : (add s k n).most = s.most := by
  unfold add
  split <;> rfl
theorem isKept_kept {s t : S} (h : t.kept = s.kept) (k : Int) : isKept t k = isKept s k := by unfold isKept; rw [h]
theorem step_most (s : S) (a : Act) : (Lr.step s a).most = s.most := by
  unfold Lr.step
  split
  · exact add_most _ _ _
  · split
    · unfold touched
      cases h : take s a.2.1 with
      | none => rfl
      | some p => obtain ⟨x, s1⟩ := p; exact (take_some h).2.1
    · split
      · unfold dropped
        cases h : take s a.2.1 with
        | none => rfl
        | some p => obtain ⟨x, s1⟩ := p; exact (take_some h).2.1
      · rfl
theorem run_most : ∀ (l : List Act) (s : S), (run s l).most = s.most
  | [], s => rfl
  | a :: l, s => by
    have := run_most l (Lr.step s a)
    unfold run at this ⊢
    rw [List.foldl_cons, this, step_most]
theorem run_all_ok {kept : Int} {acts : List Act} (h : may kept acts) (hw : ∀ a ∈ acts, (Lit.int .i64 a.2.1).wf = true) : Ok (run ⟨kept, [], []⟩ acts) 60 := by
  have := run_ok (s := ⟨kept, [], []⟩) acts _ (ok_new kept h.1 h.2.1) hw
  exact this.mono (by have := h.2.2; omega)
end Lr
theorem Own.rsub {w0 w : World} {A L : List Ent} (h : Own w0 w (A ++ L)) : Own w0 w L := h.sub (List.sublist_append_right A L)
theorem Own.third {w0 w : World} {A B C L : List Ent} (h : Own w0 w (A ++ (B ++ (C ++ L)))) : Own w0 w (C ++ (A ++ (B ++ L))) := by
  have := Own.mid (A := A ++ B) (B := C) (L := L) (by simpa using h)
  simpa using this
set_option maxRecDepth 20000 in
set_option maxHeartbeats 16000000 in
/-- Where no list may be made, or too much is asked. -/
theorem law_no {f : FuncId} (kept : Int) (v : Value) (acts : List Lr.Act) (w : World) (ha : ArgS w 3 v (acts.map actRow)) (hm : ¬ may kept acts) :
    ∀ (w0 w1 : World) (L : List Ent), Own w0 w1 L → w0 = w → Calls Try.prog 23 #[.int .i64 kept, v] w1 fun e w' => ∃ m, e = .returned (.tuple #[.pointer none, .pointer (some ⟨m, 0, none⟩)]) ∧ Own w0 w' L := by
  intro w0 w1 L HO h
  subst h
  exact run_no kept HO ha hm
set_option maxRecDepth 20000 in
set_option maxHeartbeats 16000000 in
theorem LruDrops_any (kept : Int) (v : Value) (acts : List Lr.Act) (k : Int) (w : World) (ha : ArgS w 3 v (acts.map actRow)) (hwf : ∀ a ∈ acts, (Lit.int .i64 a.2.1).wf = true) (hw : (Lit.int .i64 k).wf = true) :
    Calls Try.prog 8 #[.int .i64 kept, v, .int .i64 k] w fun e w' => e = .returned (.bool true) ∧ Below w.heap.size w w' := by
  have HO := Own.nil w
  by_cases hm : may kept acts
  · have F := Lib.hid (run_yes kept HO ha hwf hm)
    have hK := Lib.hid (run_all_ok hm hwf)
    obtain ⟨s, hs⟩ : ∃ s, run ⟨kept, [], []⟩ acts = s := ⟨_, rfl⟩
    rw [hs] at F hK
    have HK1 := Lib.hid (dropped_ok hK.out k)
    have hx := dropped_out hK.out k
    have HX := Lib.hid hx
    have HX2 := Lib.hid (dropped_same hx)
    have HKE := Lib.hid (isKept_none hx)
    have HAE := Lib.hid (addE_fresh hx (n := 3) (by decide) (by decide))
    have HKA := Lib.hid ((isKept_kept (add_kept (dropped s k) k 3) k).trans (isKept_none hx))
    have HKO := Lib.hid (add_ok HK1.out k 3 hw)
    have HW := Lib.hid hw
    obtain ⟨Z, hZ⟩ : ∃ Z, isIn s k = Z := ⟨_, rfl⟩
    have HZ := Lib.hid hZ
    have hzz : (Z != Z) = false := by simp
    clear HO ha hwf hm hs hx hZ hw
    go_enter Try.func8, Try.ntmps8
    go_wp2_with (fail)
    go_at_call 23; refine F.out.mono ?_; rintro e w1 ⟨g, m, E1, E2, rfl, h1, h2, HO⟩
    go_wp2_with (fail)
    go_at_call 10; refine (awake_any HO).mono ?_; rintro e w2 ⟨rfl, HO1⟩
    clear HO
    go_wp2_with (fail)
    go_at_call 20; refine (RHas_any k (h2.rw HO1.mid) (Nat.le_trans hK.out.len (by decide))).mono ?_; rw [HZ.out]; rintro e w3 ⟨rfl, HR⟩
    obtain ⟨E3, h3, HO2⟩ := HR.open_
    clear HO1 h2 HR
    have HO := HO2.mid
    clear HO2
    go_wp2_with (fail)
    go_at_call 26; refine (QDrop k h1 HO hK.out (by decide) HW.out).mono ?_; rw [HZ.out]; rintro e w4 ⟨E4, rfl, h4, HO1⟩
    clear HO h1
    go_wp2_with (fail)
    go_at_call 21; refine (QKept k h4 HO1 HK1.out HW.out).mono ?_; rw [HKE.out]; rintro e w5 ⟨E5, rfl, h5, HO2⟩
    clear HO1 h4
    go_wp2_with (fail)
    go_at_call 26; refine (QDrop k h5 HO2 HK1.out (by decide) HW.out).mono ?_; rw [HX.out, HX2.out]; rintro e w6 ⟨E6, rfl, h6, HO3⟩
    clear HO2 h5
    go_wp2_with (fail)
    go_at_call 27; refine (RDrop_any k (h3.rw HO3.mid) (Nat.le_trans hK.out.len (by decide))).mono ?_; rintro e w7 ⟨rfl, HR⟩
    obtain ⟨E7, h7, HO4⟩ := HR.open_
    clear HO3 h3 HR
    have HO := HO4.mid
    clear HO4
    go_wp2_with (fail)
    go_at_call 15; refine (QOrder h6 HO HK1.out (by decide)).mono ?_; rintro e w8 ⟨E8, v1, Eo, rfl, hv1, h8, HO1⟩
    clear HO h6
    go_wp2_with (fail)
    go_at_call 16; refine (ROrder_any (h7.rw HO1.third) (Nat.le_trans HK1.out.len (by decide))).mono ?_; rintro e w9 ⟨v2, Er, rfl, hv2, HR⟩
    obtain ⟨E9, h9, HO2⟩ := HR.open_
    clear HO1 h7 HR
    go_wp2_with (fail)
    go_at_call 14; refine (Same_eq (hv1.ri HO2 (fun x hx => by simp [hx])) (hv2.ri HO2 (fun x hx => by simp [hx])) (by unfold order; rw [List.length_map]; exact Nat.le_trans HK1.out.len (by decide))).mono ?_; rintro e w10 ⟨rfl, nd, rfl⟩
    have HO := (HO2.third).drewN nd
    clear HO2
    go_wp2_with (fail)
    go_at_call 25; refine (QAdd k 3 h8 HO HK1.out (by decide) HW.out (by decide)).mono ?_; rw [HAE.out]; rintro e w11 ⟨E10, rfl, h10, HO1⟩
    clear HO h8
    go_wp2_with (fail)
    go_at_call 21; refine (QKept k h10 HO1 HKO.out HW.out).mono ?_; rw [HKA.out]; rintro e w12 ⟨E11, rfl, h11, HO2⟩
    clear HO1 h10
    go_wp2_with (fail)
    go_ret
    exact ⟨rfl, HO2.below⟩
  · have F := law_no (f := 0) kept v acts w ha hm
    have FF := Lib.hid F
    clear F ha hm hwf
    go_enter Try.func8, Try.ntmps8
    go_wp2_with (fail)
    go_at_call 23; refine (FF.out _ _ _ HO rfl).mono ?_; rintro e w1 ⟨m, rfl, HO1⟩
    clear HO
    go_wp2_with (fail)
    go_at_call 10; refine (awake_any HO1).mono ?_; rintro e w2 ⟨rfl, HO2⟩
    clear HO1
    go_wp2_with (fail)
    go_at_call 10; refine (awake_any HO2).mono ?_; rintro e w3 ⟨rfl, HO3⟩
    clear HO2
    go_wp2_with (fail)
    go_ret
    exact ⟨rfl, HO3.below⟩
end Go.Proofs.Ytkkgajlddlnghaa

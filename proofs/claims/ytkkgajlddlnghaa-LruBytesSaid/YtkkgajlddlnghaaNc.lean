/- What is touched goes last of all, and is kept, if it may. -/
import Derived.Test.YtkkgajlddlnghaaNb
namespace Go.Proofs.Ytkkgajlddlnghaa
set_option linter.unusedVariables false
set_option linter.unusedSimpArgs false
set_option linter.unnecessarySimpa false
open Go.RowKit Go.Proofs.YtkkgajlddlnghaaW.PrintLast Lr
namespace Lr
theorem isIn_has {s : S} {c : Nat} {k : Int} (K : Ok s c) (h : isIn s k = true) : ∃ n, (k, n) ∈ all s ∧ has s k = some n := by
  unfold isIn at h
  cases hi : idx (all s) k with
  | none => rw [hi] at h; cases h
  | some i =>
    obtain ⟨n, hn, _⟩ := idx_some hi
    have := List.mem_of_getElem? hn
    exact ⟨n, this, has_of K this⟩
theorem touched_spec {s : S} {c : Nat} {k : Int} (K : Ok s c) (h : isIn s k = true) : ∃ n O, has s k = some n ∧ order (touched s k) = O ++ [k] ∧ (n ≤ s.most → isKept (touched s k) k = true) ∧ (s.most < n → ∀ q, isKept (touched s k) q = false) := by
  cases ht : take s k with
  | none => rw [take_none.1 ht] at h; cases h
  | some p =>
    obtain ⟨⟨k', n⟩, s1⟩ := p
    have hk' := (take_some ht).1
    have hm := (take_some ht).2.1
    simp only at hk'
    subst hk'
    have hmem := (perm_take ht).mem_iff.2 (List.mem_cons_self ..)
    have hb := K.by_ _ hmem
    obtain ⟨K1, _⟩ := taken_ok K ht
    have hkb : ∀ y ∈ s1.kept, 1 ≤ y.2 := fun y hy => (K1.by_ y (all_mem.2 (.inr hy))).1
    obtain ⟨l1, l2⟩ := settle_last s.most (k', n) s1.kept s1.trial hkb hb.1
    obtain ⟨A, B, a1, a2, a3, _⟩ := settle_spec s.most (s1.kept ++ [(k', n)]) s1.trial
    have htd : touched s k' = { s1 with trial := (Lr.settle s.most s1.trial (s1.kept ++ [(k', n)])).1, kept := (Lr.settle s.most s1.trial (s1.kept ++ [(k', n)])).2 } := by unfold touched; rw [ht]
    refine ⟨n, (s1.trial ++ s1.kept).map (·.1), has_of K hmem, ?_, ?_, ?_⟩
    · rw [htd]
      unfold order all
      simp only [a2, a3]
      rw [List.append_assoc, ← a1]
      simp
    · intro hle
      obtain ⟨B', hB⟩ := l1 hle
      rw [htd]
      exact isKept_true (n := n) (by simp only [hB]; simp)
    · intro hlt q
      rw [htd]
      unfold isKept
      rw [l2 hlt]; rfl
end Lr
set_option maxRecDepth 20000 in
set_option maxHeartbeats 16000000 in
theorem LruKept_any (kept : Int) (v : Value) (acts : List Lr.Act) (k : Int) (w : World) (ha : ArgS w 3 v (acts.map actRow)) (hwf : ∀ a ∈ acts, (Lit.int .i64 a.2.1).wf = true) (hw : (Lit.int .i64 k).wf = true) :
    Calls Try.prog 6 #[.int .i64 kept, v, .int .i64 k] w fun e w' => e = .returned (.bool true) ∧ Below w.heap.size w w' := by
  have HO := Own.nil w
  by_cases hm : may kept acts
  · have F := Lib.hid (run_yes kept HO ha hwf hm)
    have hK := Lib.hid (run_all_ok hm hwf)
    have hmost := run_most acts ⟨kept, [], []⟩
    obtain ⟨s, hs⟩ : ∃ s, run ⟨kept, [], []⟩ acts = s := ⟨_, rfl⟩
    rw [hs] at F hK hmost
    have HK1 := Lib.hid (touched_ok hK.out k)
    have HW := Lib.hid hw
    cases hin : isIn s k with
    | false =>
      have HIN := Lib.hid hin
      have HH := Lib.hid (has_none hin)
      have hzz : (false != false) = false := rfl
      clear HO ha hwf hm hs hmost hw hin
      go_enter Try.func6, Try.ntmps6
      go_wp2_with (fail)
      go_at_call 23; refine F.out.mono ?_; rintro e w1 ⟨g, m, E1, E2, rfl, h1, h2, HO⟩
      go_wp2_with (fail)
      go_at_call 10; refine (awake_any HO).mono ?_; rintro e w2 ⟨rfl, HO1⟩
      clear HO h2
      go_wp2_with (fail)
      go_at_call 19; refine (QHas k h1 HO1 hK.out HW.out).mono ?_; rw [HH.out, HIN.out]; rintro e w3 ⟨E3, rfl, h3, HO2⟩
      clear HO1 h1
      go_wp2_with (fail)
      go_at_call 24; refine (QTouch k h3 HO2 hK.out (by decide) HW.out (by decide)).mono ?_; rw [HIN.out]; rintro e w4 ⟨E4, rfl, h4, HO3⟩
      clear HO2 h3
      go_wp2_with (fail)
      go_ret
      exact ⟨rfl, HO3.below⟩
    | true =>
      obtain ⟨n, O, hh, hord, hyes, hno⟩ := touched_spec hK.out hin
      simp only at hmost
      rw [hmost] at hyes hno
      have HIN := Lib.hid hin
      have HH := Lib.hid hh
      have HOR := Lib.hid hord
      have hlen := HK1.out.len
      have hol : O.length + 1 ≤ 60 := by
        have : (order (touched s k)).length = (all (touched s k)).length := by unfold order; simp
        rw [hord, List.length_append] at this
        simp at this; omega
      obtain ⟨N, hN⟩ : ∃ N, O.length = N := ⟨_, rfl⟩
      rw [hN] at hol
      have HN := Lib.hid (show (O ++ [k]).length = N + 1 by rw [List.length_append, hN]; rfl)
      have HNL := Lib.hid (show (O ++ [k])[N]? = some k by rw [List.getElem?_append_right (by omega), hN]; simp)
      have dz : decide ((0 : Int) < ((N + 1 : Nat) : Int)) = true := decide_eq_true (by omega)
      have dz2 : decide ((0 : Int) < (N : Int) + 1) = true := decide_eq_true (by omega)
      have hb0 : (0 : Int) ≤ (N : Int) := by omega
      have hb1 : (N : Int) < ((N + 1 : Nat) : Int) := by omega
      have hb2 : (N : Int) < (N : Int) + 1 := by omega
      have hw1 : IntKind.i64.wrap (((N + 1 : Nat) : Int) - 1) = (N : Int) := by rw [IntWalk.i64_in _ (by omega)]; omega
      have hw2 : IntKind.i64.wrap ((N : Int) + 1 - 1) = (N : Int) := by rw [IntWalk.i64_in _ (by omega)]; omega
      have ekk : (k == k) = true := by simp
      have h60 := Lib.hid hol
      by_cases hle : n ≤ kept
      · have dle : decide (n ≤ kept) = true := decide_eq_true hle
        have HY := Lib.hid (hyes hle)
        clear HO ha hwf hm hs hmost hw hin hh hord hyes hno hlen hN hle
        go_enter Try.func6, Try.ntmps6
        go_wp2_with (fail)
        go_at_call 23; refine F.out.mono ?_; rintro e w1 ⟨g, m, E1, E2, rfl, h1, h2, HO⟩
        go_wp2_with (fail)
        go_at_call 10; refine (awake_any HO).mono ?_; rintro e w2 ⟨rfl, HO1⟩
        clear HO h2
        go_wp2_with (fail)
        go_at_call 19; refine (QHas k h1 HO1 hK.out HW.out).mono ?_; rw [HH.out, HIN.out]; rintro e w3 ⟨E3, rfl, h3, HO2⟩
        clear HO1 h1
        go_wp2_with (fail)
        go_at_call 24; refine (QTouch k h3 HO2 hK.out (by decide) HW.out (by decide)).mono ?_; rw [HIN.out]; rintro e w4 ⟨E4, rfl, h4, HO3⟩
        clear HO2 h3
        go_wp2_with (fail)
        go_at_call 15; refine (QOrder h4 HO3 HK1.out (by decide)).mono ?_; rw [HOR.out]; rintro e w5 ⟨E5, vo, Eo, rfl, hv, h5, HO4⟩
        clear HO3 h4
        obtain ⟨ao, co, rfl, _, _, hcell⟩ := hv.ri HO4 (fun x hx => by simp [hx])
        obtain ⟨gx, rfl, c0⟩ := hcell N k HNL.out
        have H5 := Lib.hid h5
        clear hv hcell h5
        rw [HN.out]
        go_wp2_with (refine li_loadAt 2 rfl rfl rfl c0 (by kernel_rfl) ?_)
        go_at_call 21; refine (QKept k H5.out HO4 HK1.out HW.out).mono ?_; rw [HY.out]; rintro e w6 ⟨E6, rfl, h6, HO5⟩
        clear HO4 H5 c0
        go_wp2_with (fail)
        go_ret
        exact ⟨rfl, HO5.below⟩
      · have dle : decide (n ≤ kept) = false := decide_eq_false hle
        have HNO := Lib.hid (hno (by omega))
        have HKS := Lib.hid (show ∀ (j : Nat) q, (O ++ [k])[j]? = some q → (Lit.int .i64 q).wf = true from fun j q hj => by
          rw [← hord] at hj
          obtain ⟨x, hx, rfl⟩ := List.mem_map.1 (List.mem_of_getElem? hj)
          exact HK1.out.ks x hx)
        clear HO ha hwf hm hs hmost hw hin hh hord hyes hno hlen hN hle
        go_enter Try.func6, Try.ntmps6
        go_wp2_with (fail)
        go_at_call 23; refine F.out.mono ?_; rintro e w1 ⟨g, m, E1, E2, rfl, h1, h2, HO⟩
        go_wp2_with (fail)
        go_at_call 10; refine (awake_any HO).mono ?_; rintro e w2 ⟨rfl, HO1⟩
        clear HO h2
        go_wp2_with (fail)
        go_at_call 19; refine (QHas k h1 HO1 hK.out HW.out).mono ?_; rw [HH.out, HIN.out]; rintro e w3 ⟨E3, rfl, h3, HO2⟩
        clear HO1 h1
        go_wp2_with (fail)
        go_at_call 24; refine (QTouch k h3 HO2 hK.out (by decide) HW.out (by decide)).mono ?_; rw [HIN.out]; rintro e w4 ⟨E4, rfl, h4, HO3⟩
        clear HO2 h3
        go_wp2_with (fail)
        go_at_call 15; refine (QOrder h4 HO3 HK1.out (by decide)).mono ?_; rw [HOR.out]; rintro e w5 ⟨E5, vo, Eo, rfl, hv, h5, HO4⟩
        clear HO3 h4
        obtain ⟨ao, co, rfl, _, _, _⟩ := hv.ri HO4 (fun x hx => by simp [hx])
        have HV := Lib.hid hv
        have H5 := Lib.hid h5
        rw [HN.out] at HV ⊢
        clear hv h5
        go_wp2_with (fail)
        go_loopg [65] (N + 1) (fun q vi wr => ∃ (i : Nat) (E : List Ent), vi = .int .i64 (i : Int) ∧ i ≤ N + 1 ∧ q = N + 1 - i ∧ Hid (LQ g 122000 (touched s k) E) ∧ Own w wr (E ++ (Eo ++ (E2 ++ []))))
        case atStart => exact ⟨0, E5, by rfl, by omega, by omega, H5, HO4⟩
        case round =>
          clear HO4 H5 E5
          obtain ⟨i, E, rfl, i1, hq, h1, HO⟩ := hrel
          rcases Nat.lt_or_ge i (N + 1) with hi | hi
          · have hdi : decide ((i : Int) < ((N + 1 : Nat) : Int)) = true := decide_eq_true (by omega)
            have hdi2 : decide ((i : Int) < (N : Int) + 1) = true := decide_eq_true (by omega)
            have hwi : IntKind.i64.wrap ((i : Int) + 1) = ((i + 1 : Nat) : Int) := by rw [IntWalk.i64_in _ (by omega)]; rfl
            have hc0 : (0 : Int) ≤ (i : Int) := by omega
            have hc1 : (i : Int) < ((N + 1 : Nat) : Int) := by omega
            have hc2 : (i : Int) < (N : Int) + 1 := by omega
            obtain ⟨y, hy⟩ : ∃ y, (O ++ [k])[i]? = some y := ⟨_, List.getElem?_eq_getElem (by rw [HN.out]; exact hi)⟩
            have hkw := HKS.out i y hy
            obtain ⟨_, _, hv, _, _, hcell⟩ := HV.out.ri HO (fun x hx => by simp [hx])
            injection hv with q1 q2 q3
            subst q1
            obtain ⟨gx, rfl, c0⟩ := hcell i y hy
            have HKW := Lib.hid hkw
            have HI := Lib.hid hi
            have HQQ := Lib.hid hq
            clear hcell hy hkw hi hq q2 q3
            go_wp2_with (refine li_loadAt 2 rfl rfl rfl c0 (by kernel_rfl) ?_)
            go_at_call 21; refine (QKept y h1.out HO HK1.out HKW.out).mono ?_; rw [HNO.out]; rintro e w6 ⟨E6, rfl, h6, HO5⟩
            have H6 := Lib.hid h6
            clear HO h1 h6 c0
            go_wp2_with (fail)
            go_roundg (N + 1 - (i + 1))
            case measure => have := HI.out; have := HQQ.out; omega
            case rel => exact ⟨i + 1, E6, rfl, by have := HI.out; omega, rfl, H6, HO5⟩
          · obtain rfl : i = N + 1 := by omega
            have hdi : decide (((N + 1 : Nat) : Int) < ((N + 1 : Nat) : Int)) = false := by simp
            have hdi2 : decide ((N : Int) + 1 < (N : Int) + 1) = false := by simp
            obtain ⟨_, _, hv, _, _, hcell⟩ := HV.out.ri HO (fun x hx => by simp [hx])
            injection hv with q1 q2 q3
            subst q1
            obtain ⟨gx, rfl, c0⟩ := hcell N k HNL.out
            clear hcell q2 q3
            go_wp2_with (refine li_loadAt 2 rfl rfl rfl c0 (by kernel_rfl) ?_)
            go_at_call 21; refine (QKept k h1.out HO HK1.out HW.out).mono ?_; rw [HNO.out]; rintro e w6 ⟨E6, rfl, h6, HO5⟩
            clear HO h1 c0
            go_wp2_with (fail)
            go_ret
            exact ⟨rfl, HO5.below⟩
  · have F := law_no (f := 0) kept v acts w ha hm
    have FF := Lib.hid F
    clear F ha hm hwf
    go_enter Try.func6, Try.ntmps6
    go_wp2_with (fail)
    go_at_call 23; refine (FF.out _ _ _ HO rfl).mono ?_; rintro e w1 ⟨m, rfl, HO1⟩
    clear HO
    go_wp2_with (fail)
    go_at_call 10; refine (awake_any HO1).mono ?_; rintro e w2 ⟨rfl, HO2⟩
    clear HO1
    go_wp2_with (fail)
    go_at_call 10; refine (awake_any HO2).mono ?_; rintro e w3 ⟨rfl, HO3⟩
    clear HO2
    go_wp2_with (fail)
    go_ret
    exact ⟨rfl, HO3.below⟩
end Go.Proofs.Ytkkgajlddlnghaa

/- What is refused changes nothing. -/
import Derived.Test.YtkkgajlddlnghaaNc
namespace Go.Proofs.Ytkkgajlddlnghaa
set_option linter.unusedVariables false
set_option linter.unusedSimpArgs false
set_option linter.unnecessarySimpa false
open Go.RowKit Go.Proofs.YtkkgajlddlnghaaW.PrintLast Lr
set_option maxRecDepth 20000 in
set_option maxHeartbeats 16000000 in
theorem LruRefused_any (kept : Int) (v v2 : Value) (acts more : List Lr.Act) (w : World) (ha : ArgS w 3 v (acts.map actRow)) (hwf : ∀ a ∈ acts, (Lit.int .i64 a.2.1).wf = true) (ha2 : ArgS w 3 v2 (more.map actRow)) (hwf2 : ∀ a ∈ more, (Lit.int .i64 a.2.1).wf = true) :
    Calls Try.prog 9 #[.int .i64 kept, v, v2] w fun e w' => e = .returned (.bool true) ∧ Below w.heap.size w w' := by
  have HO := Own.nil w
  by_cases hm : may kept acts
  · have F := Lib.hid (run_yes kept HO ha hwf hm)
    have hK := Lib.hid (run_all_ok hm hwf)
    obtain ⟨s, hs⟩ : ∃ s, run ⟨kept, [], []⟩ acts = s := ⟨_, rfl⟩
    rw [hs] at F hK
    obtain ⟨ao, cap, rfl, _, _, hrd⟩ := ha2
    rw [List.length_map]
    obtain ⟨N, hN⟩ : ∃ N, more.length = N := ⟨_, rfl⟩
    rw [hN]
    have HN := Lib.hid hN
    have HRD := Lib.hid hrd
    have HWF := Lib.hid hwf2
    by_cases h40 : 40 < N
    · have hd : decide ((40 : Int) < (N : Int)) = true := decide_eq_true (by omega)
      clear HO ha hwf hm hs hN hrd hwf2 h40
      go_enter Try.func9, Try.ntmps9
      go_wp2_with (fail)
      go_at_call 23; refine F.out.mono ?_; rintro e w1 ⟨g, m, E1, E2, rfl, h1, h2, HO⟩
      go_wp2_with (fail)
      go_at_call 10; refine (awake_any HO).mono ?_; rintro e w2 ⟨rfl, HO1⟩
      clear HO h1 h2
      go_wp2_with (fail)
      go_at_call 10; refine (awake_any HO1).mono ?_; rintro e w2 ⟨rfl, HO2⟩
      clear HO1
      go_wp2_with (fail)
      go_ret
      exact ⟨rfl, HO2.below⟩
    have hd : decide ((40 : Int) < (N : Int)) = false := decide_eq_false (by omega)
    have H40 := Lib.hid (show N ≤ 40 by omega)
    clear HO ha hwf hm hs hN hrd hwf2 h40
    go_enter Try.func9, Try.ntmps9
    go_wp2_with (fail)
    go_at_call 23; refine F.out.mono ?_; rintro e w1 ⟨g, m, E1, E2, rfl, h1, h2, HO⟩
    go_wp2_with (fail)
    go_at_call 10; refine (awake_any HO).mono ?_; rintro e w2 ⟨rfl, HO1⟩
    clear HO
    go_wp2_with (fail)
    go_at_call 16; refine (ROrder_any (h2.rw HO1.mid) (Nat.le_trans hK.out.len (by decide))).mono ?_; rintro e w3 ⟨vo, Er, rfl, hv, HR⟩
    obtain ⟨E3, h3, HO2⟩ := HR.open_
    have HV := Lib.hid hv
    have H1 := Lib.hid (show LQ g (120000 + 6000 * 0) s E1 from h1)
    have H3 := Lib.hid h3
    have HO3 : Own w w3 (E1 ++ (E3 ++ (Er ++ []))) := HO2.third
    clear HO1 HO2 h1 h2 h3 hv HR
    go_wp2_with (fail)
    go_loopg [36] N (fun q vi wr => ∃ (i : Nat) (E1 E3 : List Ent), vi = .int .i64 (i : Int) ∧ i ≤ N ∧ q = N - i ∧ Hid (LQ g (120000 + 6000 * i) s E1) ∧ Hid (RP m s E3) ∧ Own w wr (E1 ++ (E3 ++ (Er ++ []))))
    case atStart => exact ⟨0, E1, E3, by rfl, by omega, by omega, H1, H3, HO3⟩
    case round =>
      clear HO3 H1 H3 E1 E3
      obtain ⟨i, E1, E3, rfl, i1, hq, h1, h3, HO⟩ := hrel
      rcases Nat.lt_or_ge i N with hi | hi
      · have hdi : decide ((i : Int) < (N : Int)) = true := decide_eq_true (by omega)
        have hwi : IntKind.i64.wrap ((i : Int) + 1) = ((i + 1 : Nat) : Int) := by rw [IntWalk.i64_in _ (by have := H40.out; omega)]; rfl
        have hb0 : (0 : Int) ≤ (i : Int) := by omega
        have hb1 : (i : Int) < (N : Int) := by omega
        obtain ⟨⟨q1, k, n⟩, hact⟩ : ∃ p, more[i]? = some p := ⟨_, List.getElem?_eq_getElem (by rw [HN.out]; exact hi)⟩
        obtain ⟨ad, rfl, hcell⟩ := HRD.out i (actRow (q1, k, n)) (by simp [hact])
        have HC := Lib.hid hcell
        have hkw := Lib.hid (HWF.out _ (List.mem_of_getElem? hact))
        have HI := Lib.hid hi
        have HQ := Lib.hid hq
        clear hact hcell hi hq
        go_wp2_with (first | (refine li_loadAggAt 34 3 (vs := [.int .i64 q1, .int .i64 k, .int .i64 n]) rfl rfl rfl (fun j x hj => HO.old (HC.out j x hj)) rfl (by kernel_rfl) (by kernel_rfl) (by kernel_rfl) ?_) | (refine li_alloc (t := 34) rfl rfl (z := .agg #[.int .i64 0, .int .i64 0, .int .i64 0]) (cs := [.int .i64 0, .int .i64 0, .int .i64 0]) (by kernel_rfl) rfl HO ?_; clear HO; intro ga wa HO) | (refine li_storeAgg 0 34 rfl rfl rfl rfl HO rfl rfl rfl rfl (by kernel_rfl) ?_; clear HO; intro ws HO; simp only [List.set_cons_zero] at HO) | (refine li_load 0 2 rfl rfl rfl HO rfl rfl (by kernel_rfl) ?_))
        have HO1 : Own w ws (E3 ++ ([(ga, CellsP 34 [.int .i64 q1, .int .i64 k, .int .i64 n])] ++ (E1 ++ (Er ++ [])))) := Own.third (A := [_]) HO
        clear HO
        go_at_call 20; refine (RHas_any k (h3.out.rw HO1) (Nat.le_trans hK.out.len (by decide))).mono ?_; rintro e w4 ⟨rfl, HR⟩
        obtain ⟨E5, h5, HO2⟩ := HR.open_
        have H5 := Lib.hid h5
        clear HO1 h3 h5 HR
        have HO : Own w w4 (E1 ++ (E5 ++ ([(ga, CellsP 34 [.int .i64 q1, .int .i64 k, .int .i64 n])] ++ (Er ++ [])))) := HO2.third
        clear HO2
        have c1 := HO.cellsM (t := 34) (xs := [.int .i64 q1, .int .i64 k, .int .i64 n]) (g := ga) (by simp) 1 rfl
        have c2 := HO.cellsM (t := 34) (xs := [.int .i64 q1, .int .i64 k, .int .i64 n]) (g := ga) (by simp) 2 rfl
        cases hin : isIn s k with
        | true =>
          obtain ⟨z1, z2⟩ := addE_in (n := n) hin
          obtain ⟨Z, hZ⟩ : ∃ Z, addE s k n = Z := ⟨_, rfl⟩
          rw [hZ] at z1
          have hz : (Z == 0) = false := by simp [z1]
          have HZ := Lib.hid hZ
          have HZ2 := Lib.hid z2
          clear z1 z2 hZ hin
          go_wp2_with (first | (refine li_loadAt 2 rfl rfl rfl c1 (by kernel_rfl) ?_) | (refine li_loadAt 2 rfl rfl rfl c2 (by kernel_rfl) ?_))
          go_at_call 25; refine (QAdd k n h1.out HO hK.out (by decide) hkw.out (by have := H40.out; omega)).mono ?_; rw [HZ.out, HZ2.out]; rintro e w5 ⟨E6, rfl, h6, HO3⟩
          have H6 := Lib.hid (h6.mono (show _ ≤ 120000 + 6000 * (i + 1) by omega))
          clear HO h1 h6 c1 c2
          have HO4 : Own w w5 (E6 ++ (E5 ++ (Er ++ []))) := HO3.sub (List.Sublist.append_left (List.Sublist.append_left (List.sublist_append_right _ _) _) _)
          clear HO3
          go_wp2_with (fail)
          go_roundg (N - (i + 1))
          case measure => have := HI.out; have := HQ.out; omega
          case rel => exact ⟨i + 1, E6, E5, rfl, by have := HI.out; omega, rfl, H6, H5, HO4⟩
        | false =>
          have HIN := Lib.hid hin
          have HT := Lib.hid (touched_same hin)
          have HD := Lib.hid (dropped_same hin)
          have HA0 := Lib.hid (addE_bad (s := s) (k := k) (n := 0) (.inl (by decide)))
          have HA1 := Lib.hid (addE_bad (s := s) (k := k) (n := 2199023255552) (.inr (by decide)))
          clear hin
          go_wp2_with (refine li_loadAt 2 rfl rfl rfl c1 (by kernel_rfl) ?_)
          go_at_call 24; refine (QTouch k h1.out HO hK.out (by decide) hkw.out (by have := H40.out; omega)).mono ?_; rw [HIN.out, HT.out]; rintro e w5 ⟨E6, rfl, h6, HO3⟩
          clear HO h1 c1 c2
          have c1 := HO3.cellsM (t := 34) (xs := [.int .i64 q1, .int .i64 k, .int .i64 n]) (g := ga) (by simp) 1 rfl
          go_wp2_with (refine li_loadAt 2 rfl rfl rfl c1 (by kernel_rfl) ?_)
          go_at_call 26; refine (QDrop k h6 HO3 hK.out (by decide) hkw.out).mono ?_; rw [HIN.out, HD.out]; rintro e w6 ⟨E7, rfl, h7, HO4⟩
          clear HO3 h6 c1
          have c1 := HO4.cellsM (t := 34) (xs := [.int .i64 q1, .int .i64 k, .int .i64 n]) (g := ga) (by simp) 1 rfl
          go_wp2_with (refine li_loadAt 2 rfl rfl rfl c1 (by kernel_rfl) ?_)
          go_at_call 25; refine (QAdd k 0 h7 HO4 hK.out (by decide) hkw.out (by have := H40.out; omega)).mono ?_; rw [HA0.out.1, HA0.out.2]; rintro e w7 ⟨E8, rfl, h8, HO5⟩
          clear HO4 h7 c1
          have c1 := HO5.cellsM (t := 34) (xs := [.int .i64 q1, .int .i64 k, .int .i64 n]) (g := ga) (by simp) 1 rfl
          go_wp2_with (refine li_loadAt 2 rfl rfl rfl c1 (by kernel_rfl) ?_)
          go_at_call 25; refine (QAdd k 2199023255552 h8 HO5 hK.out (by decide) hkw.out (by have := H40.out; omega)).mono ?_; rw [HA1.out.1, HA1.out.2]; rintro e w8 ⟨E9, rfl, h9, HO6⟩
          have H9 := Lib.hid (h9.mono (show _ ≤ 120000 + 6000 * (i + 1) by omega))
          clear HO5 h8 h9 c1
          have HO7 : Own w w8 (E9 ++ (E5 ++ (Er ++ []))) := HO6.sub (List.Sublist.append_left (List.Sublist.append_left (List.sublist_append_right _ _) _) _)
          clear HO6
          go_wp2_with (fail)
          go_roundg (N - (i + 1))
          case measure => have := HI.out; have := HQ.out; omega
          case rel => exact ⟨i + 1, E9, E5, rfl, by have := HI.out; omega, rfl, H9, H5, HO7⟩
      · obtain rfl : i = N := by omega
        have hdi : decide ((i : Int) < (i : Int)) = false := by simp
        go_wp2_with (fail)
        go_at_call 15; refine (QOrder h1.out HO hK.out (by decide)).mono ?_; rintro e w4 ⟨E4, v4, Eo, rfl, hv4, h4, HO1⟩
        clear HO h1
        go_wp2_with (fail)
        go_at_call 14; refine (Same_eq (hv4.ri HO1 (fun x hx => by simp [hx])) (HV.out.ri HO1 (fun x hx => by simp [hx])) (by unfold order; rw [List.length_map]; exact Nat.le_trans hK.out.len (by decide))).mono ?_; rintro e w10 ⟨rfl, nd, rfl⟩
        have HO := HO1.drewN nd
        clear HO1
        go_wp2_with (fail)
        go_ret
        exact ⟨rfl, HO.below⟩
  · have F := law_no (f := 0) kept v acts w ha hm
    have FF := Lib.hid F
    clear F ha hm hwf
    go_enter Try.func9, Try.ntmps9
    go_wp2_with (fail)
    go_at_call 23; refine (FF.out _ _ _ HO rfl).mono ?_; rintro e w1 ⟨m, rfl, HO1⟩
    clear HO
    go_wp2_with (fail)
    go_at_call 10; refine (awake_any HO1).mono ?_; rintro e w2 ⟨rfl, HO2⟩
    clear HO1
    go_wp2_with (fail)
    go_at_call 10; refine (awake_any HO2).mono ?_; rintro e w3 ⟨rfl, HO3⟩
    clear HO2
    go_wp2_with (fail)
    go_ret
    exact ⟨rfl, HO3.below⟩
end Go.Proofs.Ytkkgajlddlnghaa

/- Each thing that is there stands in the order once; those that are kept stand behind all others. -/
import Derived.Test.YtkkgajlddlnghaaNf
namespace Go.Proofs.Ytkkgajlddlnghaa
set_option linter.unusedVariables false
set_option linter.unusedSimpArgs false
set_option linter.unnecessarySimpa false
open Go.RowKit Go.Proofs.YtkkgajlddlnghaaW.PrintLast Lr
theorem zero4 (w : World) : (zeroValue 4).run Try.prog w = .ok (.bool false) w := by rfl
theorem encBool_f : encBool (.bool false) = some (.bool false) := rfl
theorem encBool_t : encBool (.bool true) = some (.bool true) := rfl
abbrev Mb (n : Nat) (F : Int → Value) : Obj → Prop := MapP Try.prog 2 encBool (.bool false) n F
theorem lst_mid {E L : List Ent} (x : Ent) : (E ++ x :: L)[E.length]? = some x := by simp
theorem lst_mid_set {E L : List Ent} (x y : Ent) : (E ++ x :: L).set E.length y = E ++ y :: L := by simp
theorem lst_mid1 {E L : List Ent} (x y : Ent) : (E ++ ([x] ++ y :: L))[E.length + 1]? = some y := by simp
namespace Lr
theorem kept_next {s : S} {c : Nat} (K : Ok s c) (i : Nat) (k k' : Int) (h1 : (order s)[i]? = some k) (h2 : (order s)[i + 1]? = some k') (hk : isKept s k = true) : isKept s k' = true := by
  unfold order at h1 h2
  rw [List.getElem?_map] at h1 h2
  obtain ⟨x, hx, rfl⟩ := Option.map_eq_some_iff.1 h1
  obtain ⟨y, hy, rfl⟩ := Option.map_eq_some_iff.1 h2
  unfold all at hx hy
  rcases Nat.lt_or_ge i s.trial.length with hi | hi
  · rw [List.getElem?_append_left hi] at hx
    rw [isKept_false (n := x.2) K (List.mem_of_getElem? hx)] at hk
    cases hk
  · rw [List.getElem?_append_right (by omega)] at hy
    exact isKept_true (n := y.2) (List.mem_of_getElem? hy)
theorem take_fresh {l : List Int} (h : l.Nodup) (i : Nat) (k : Int) (hk : l[i]? = some k) : k ∉ l.take i := by
  have hl := (List.getElem?_eq_some_iff.1 hk).1
  have e : l = l.take i ++ k :: l.drop (i + 1) := by
    conv => lhs; rw [← List.take_append_drop i l]
    congr 1
    rw [List.drop_eq_getElem_cons hl, (List.getElem?_eq_some_iff.1 hk).2]
  rw [e] at h
  intro hm
  rw [List.nodup_append] at h
  exact h.2.2 k hm k (List.mem_cons_self ..) rfl
theorem mem_take_succ {l : List Int} {i : Nat} {k q : Int} (hk : l[i]? = some k) : q ∈ l.take (i + 1) ↔ q = k ∨ q ∈ l.take i := by
  rw [List.take_add_one, hk]; simp [or_comm]
theorem in_order (s : S) (q : Int) : decide (q ∈ order s) = isIn s q := by
  cases h : isIn s q with
  | false =>
    refine decide_eq_false fun hm => ?_
    obtain ⟨x, hx, e⟩ := List.mem_map.1 hm
    exact isIn_false_iff.1 h x hx e
  | true =>
    refine decide_eq_true ?_
    unfold isIn at h
    cases hi : idx (all s) q with
    | none => rw [hi] at h; cases h
    | some i =>
      obtain ⟨n, hn, _⟩ := idx_some hi
      exact List.mem_map.2 ⟨(q, n), List.mem_of_getElem? hn, rfl⟩
end Lr
set_option maxRecDepth 20000 in
set_option maxHeartbeats 16000000 in
theorem LruOrder_any (kept : Int) (v : Value) (acts : List Lr.Act) (w : World) (ha : ArgS w 3 v (acts.map actRow)) (hwf : ∀ a ∈ acts, (Lit.int .i64 a.2.1).wf = true) :
    Calls Try.prog 4 #[.int .i64 kept, v] w fun e w' => e = .returned (.bool true) ∧ Below w.heap.size w w' := by
  have HO := Own.nil w
  by_cases hm : may kept acts
  · have F := Lib.hid (run_yes kept HO ha hwf hm)
    have hK := Lib.hid (run_all_ok hm hwf)
    obtain ⟨s, hs⟩ : ∃ s, run ⟨kept, [], []⟩ acts = s := ⟨_, rfl⟩
    rw [hs] at F hK
    obtain ⟨ao, cap, rfl, _, _, hrd⟩ := ha
    rw [List.length_map]
    obtain ⟨NA, hNA⟩ : ∃ N, acts.length = N := ⟨_, rfl⟩
    rw [List.length_map, hNA] at F
    rw [hNA]
    have HNA := Lib.hid hNA
    have h60 := hm.2.2
    rw [hNA] at h60
    have H60 := Lib.hid h60
    have HRD := Lib.hid hrd
    have HWF := Lib.hid hwf
    obtain ⟨N, hN⟩ : ∃ N, (order s).length = N := ⟨_, rfl⟩
    have HN := Lib.hid hN
    have hle : N ≤ 60 := by rw [← hN]; unfold order; rw [List.length_map]; exact hK.out.len
    have HLE := Lib.hid hle
    have HND := Lib.hid (show (order s).Nodup from hK.out.nd)
    clear HO hwf hm hs hNA hrd hN h60 hle
    go_enter Try.func4, Try.ntmps4
    go_wp2_with (fail)
    go_at_call 23; refine F.out.mono ?_; rintro e w1 ⟨g, m, E1, E2, rfl, h1, h2, HO⟩
    go_wp2_with (fail)
    go_at_call 10; refine (awake_any HO).mono ?_; rintro e w2 ⟨rfl, HO1⟩
    clear HO h2
    go_wp2_with (refine li_makeMap (k := 2) (enc := encBool) (z := .bool false) rfl rfl encBool_f HO1 ?_; clear HO1; intro mb wm HO1)
    have HO : Own w wm (E1 ++ ((mb, Mb 0 (fun _ => .bool false)) :: (E2 ++ []))) := HO1.perm List.perm_middle.symm
    clear HO1
    go_at_call 15; refine (QOrder h1 HO hK.out (by decide)).mono ?_; rintro e w3 ⟨E3, vo, Eo, rfl, hv, h3, HO2⟩
    clear HO h1
    have HO3 : Own w w3 (E3 ++ ((mb, Mb 0 (fun _ => .bool false)) :: (Eo ++ (E2 ++ [])))) := HO2.perm (List.Perm.append_left _ List.perm_middle)
    clear HO2
    obtain ⟨ao', co, rfl, _, _, _⟩ := hv.ri HO3 (fun x hx => by simp [hx])
    have HV := Lib.hid hv
    rw [HN.out] at HV ⊢
    have H3 := Lib.hid h3
    clear hv h3
    go_wp2_with (fail)
    go_loopg [8, 34] N (fun q vb vi wr => ∃ (i : Nat) (b : Bool) (E : List Ent) (G : Int → Value), vi = .int .i64 (i : Int) ∧ i ≤ N ∧ q = N - i ∧ vb = .bool b ∧ Hid (b = true → ∀ k, (order s)[i]? = some k → isKept s k = true) ∧ Hid (∀ q, G q = .bool (decide (q ∈ (order s).take i))) ∧ Hid (LQ g 120000 s E) ∧ Own w wr (E ++ ((mb, Mb i G) :: (Eo ++ (E2 ++ [])))))
    case atStart => exact ⟨0, false, E3, _, by rfl, by omega, by omega, rfl, Lib.hid (fun h => by cases h), Lib.hid (fun q => by simp), H3, HO3⟩
    case round =>
      clear HO3 H3 E3
      obtain ⟨i, b, E, G, rfl, i1, hq, rfl, hb, hG, h1, HO⟩ := hrel
      rcases Nat.lt_or_ge i N with hi | hi
      · have hdi : decide ((i : Int) < (N : Int)) = true := decide_eq_true (by omega)
        have hwi : IntKind.i64.wrap ((i : Int) + 1) = ((i + 1 : Nat) : Int) := by rw [IntWalk.i64_in _ (by have := HLE.out; omega)]; rfl
        have hb0 : (0 : Int) ≤ (i : Int) := by omega
        have hb1 : (i : Int) < (N : Int) := by omega
        obtain ⟨k, hx⟩ : ∃ x, (order s)[i]? = some x := ⟨_, List.getElem?_eq_getElem (by rw [HN.out]; exact hi)⟩
        obtain ⟨y, hy, hyk⟩ := List.mem_map.1 (List.mem_of_getElem? hx)
        obtain ⟨n, hmem⟩ : ∃ n, (k, n) ∈ all s := ⟨y.2, by rw [← hyk]; exact hy⟩
        obtain ⟨_, _, hv, _, _, hcell⟩ := HV.out.ri HO (fun x hx => by simp [hx])
        injection hv with q1 q2 q3
        subst q1
        obtain ⟨gx, rfl, c0⟩ := hcell i k hx
        have HII := Lib.hid (isIn_of hmem)
        have HKW := Lib.hid (hK.out.ks _ hmem)
        have hGk : G k = .bool false := by rw [hG.out, decide_eq_false (take_fresh HND.out i k hx)]
        have HG2 := Lib.hid (show ∀ q, (fun q => if q = k then Value.bool true else G q) q = .bool (decide (q ∈ (order s).take (i + 1))) from fun q => by
          by_cases e : q = k
          · simp only [e, if_true]
            rw [decide_eq_true ((mem_take_succ hx).2 (.inl rfl))]
          · simp only [e, if_false]
            rw [hG.out q]
            have h1 := mem_take_succ hx (q := q)
            simp only [e, false_or] at h1
            rw [decide_eq_decide.2 h1])
        have HB2 := Lib.hid (show isKept s k = true → ∀ k', (order s)[i + 1]? = some k' → isKept s k' = true from fun h k' hk' => kept_next hK.out i k k' hx hk' h)
        have HBK := Lib.hid (show b = true → isKept s k = true from fun h => hb.out h k hx)
        have hn' := Lib.hid (show i < maxLen by have := HLE.out; unfold maxLen; omega)
        have HI := Lib.hid hi
        have HQ := Lib.hid hq
        clear hx hy hyk hmem hcell hG hb hi hq q2 q3 y
        go_wp2_with (refine li_loadAt 2 rfl rfl rfl c0 (by kernel_rfl) ?_)
        go_at_call 19; refine (QHas k h1.out HO hK.out HKW.out).mono ?_; rw [HII.out]; rintro e w4 ⟨E4, rfl, h4, HO1⟩
        clear HO h1 c0
        have H4 := Lib.hid h4
        have HO := HO1
        have hkw := HKW.out
        clear HO1 h4
        cases b with
        | false =>
          go_wp2_with (first | (refine li_look _ rfl rfl rfl rfl HO (lst_mid _) encBool_inj K2 Try.underlying2 Try.underlying46 (zero4 _) encBool_f hkw hGk ?_) | (refine li_mapPut _ rfl rfl rfl rfl rfl rfl encBool_t HO (lst_mid _) K2 Try.underlying2 Try.underlying46 hn'.out hkw ?_; clear HO; intro ws HO; rw [lst_mid_set] at HO))
          go_at_call 21; refine (QKept k H4.out HO hK.out HKW.out).mono ?_; rintro e w5 ⟨E5, rfl, h5, HO2⟩
          have H5 := Lib.hid h5
          clear HO H4 h5
          go_wp2_with (fail)
          go_roundg (N - (i + 1))
          case measure => have := HI.out; have := HQ.out; omega
          case rel => exact ⟨i + 1, isKept s k, E5, _, rfl, by have := HI.out; omega, rfl, rfl, HB2, HG2, H5, HO2⟩
        | true =>
          have HKT := Lib.hid (HBK.out rfl)
          go_wp2_with (refine li_look _ rfl rfl rfl rfl HO (lst_mid _) encBool_inj K2 Try.underlying2 Try.underlying46 (zero4 _) encBool_f hkw hGk ?_)
          go_at_call 21; refine (QKeptV k H4.out HO hK.out HKW.out HKT.out).mono ?_; rintro e w5 ⟨E5, rfl, h5, HO2⟩
          have H5 := Lib.hid h5
          clear HO H4 h5
          have HO := HO2
          clear HO2
          go_wp2_with (refine li_mapPut _ rfl rfl rfl rfl rfl rfl encBool_t HO (lst_mid _) K2 Try.underlying2 Try.underlying46 hn'.out hkw ?_; clear HO; intro ws HO; rw [lst_mid_set] at HO)
          go_at_call 21; refine (QKept k H5.out HO hK.out HKW.out).mono ?_; rintro e w6 ⟨E6, rfl, h6, HO2⟩
          have H6 := Lib.hid h6
          clear HO H5 h6
          go_wp2_with (fail)
          go_roundg (N - (i + 1))
          case measure => have := HI.out; have := HQ.out; omega
          case rel => exact ⟨i + 1, isKept s k, E6, _, rfl, by have := HI.out; omega, rfl, rfl, HB2, HG2, H6, HO2⟩
      · obtain rfl : i = N := by omega
        have hdi : decide ((i : Int) < (i : Int)) = false := by simp
        have hG2 := hG.out
        rw [List.take_of_length_le (by rw [HN.out]; omega)] at hG2
        have HG := Lib.hid (show ∀ q, G q = .bool (isIn s q) from fun q => by rw [hG2 q, in_order])
        clear hG hG2 hb
        go_wp2_with (fail)
        go_loopg [68] NA (fun q vi wr => ∃ (j : Nat) (E : List Ent), vi = .int .i64 (j : Int) ∧ j ≤ NA ∧ q = NA - j ∧ Hid (LQ g 120000 s E) ∧ Own w wr (E ++ ((mb, Mb i G) :: (Eo ++ (E2 ++ [])))))
        case atStart => exact ⟨0, E, by rfl, by omega, by omega, h1, HO⟩
        case round =>
          clear HO h1 E hdi
          obtain ⟨j, E, rfl, j1, hq, h1, HO⟩ := hrel
          rcases Nat.lt_or_ge j NA with hj | hj
          · have hdj : decide ((j : Int) < (NA : Int)) = true := decide_eq_true (by omega)
            have hwj : IntKind.i64.wrap ((j : Int) + 1) = ((j + 1 : Nat) : Int) := by rw [IntWalk.i64_in _ (by have := H60.out; omega)]; rfl
            have hb0 : (0 : Int) ≤ (j : Int) := by omega
            have hb1 : (j : Int) < (NA : Int) := by omega
            obtain ⟨⟨q1, k, n⟩, hact⟩ : ∃ p, acts[j]? = some p := ⟨_, List.getElem?_eq_getElem (by rw [HNA.out]; exact hj)⟩
            obtain ⟨ad, rfl, hcell⟩ := HRD.out j (actRow (q1, k, n)) (by simp [hact])
            have HC := Lib.hid hcell
            have hkw := HWF.out _ (List.mem_of_getElem? hact)
            have HKW := Lib.hid hkw
            obtain ⟨Z, hZ⟩ : ∃ Z, isIn s k = Z := ⟨_, rfl⟩
            have HZ := Lib.hid hZ
            have hGk : G k = .bool Z := by rw [HG.out, hZ]
            have hzz : (Z != Z) = false := by simp
            have HI := Lib.hid hj
            have HQ := Lib.hid hq
            clear hact hcell hj hq hZ
            go_wp2_with (first | (refine li_loadAggAt 34 3 (vs := [.int .i64 q1, .int .i64 k, .int .i64 n]) rfl rfl rfl (fun j x hj => HO.old (HC.out j x hj)) rfl (by kernel_rfl) (by kernel_rfl) (by kernel_rfl) ?_) | (refine li_alloc (t := 34) rfl rfl (z := .agg #[.int .i64 0, .int .i64 0, .int .i64 0]) (cs := [.int .i64 0, .int .i64 0, .int .i64 0]) (by kernel_rfl) rfl HO ?_; clear HO; intro ga wa HO) | (refine li_storeAgg 0 34 rfl rfl rfl rfl HO rfl rfl rfl rfl (by kernel_rfl) ?_; clear HO; intro ws HO; simp only [List.set_cons_zero] at HO) | (refine li_load 0 2 rfl rfl rfl HO rfl rfl (by kernel_rfl) ?_))
            have HO1 : Own w ws (E ++ ([(ga, CellsP 34 [.int .i64 q1, .int .i64 k, .int .i64 n])] ++ ((mb, Mb i G) :: (Eo ++ (E2 ++ []))))) := Own.mid (A := [_]) HO
            clear HO
            go_at_call 19; refine (QHas k h1.out HO1 hK.out HKW.out).mono ?_; rw [HZ.out]; rintro e w4 ⟨E4, rfl, h4, HO⟩
            have H4 := Lib.hid h4
            have c1 := HO.cellsM (t := 34) (xs := [.int .i64 q1, .int .i64 k, .int .i64 n]) (g := ga) (by simp) 1 rfl
            clear HO1 h1 h4
            clear hkw
            have hkw2 := HKW.out
            go_wp2_with (first | (refine li_loadAt 2 rfl rfl rfl c1 (by kernel_rfl) ?_) | (refine li_look _ rfl rfl rfl rfl HO (lst_mid1 _ _) encBool_inj K2 Try.underlying2 Try.underlying46 (zero4 _) encBool_f hkw2 hGk ?_))
            have HO7 : Own w w4 (E4 ++ ((mb, Mb i G) :: (Eo ++ (E2 ++ [])))) := HO.sub (List.Sublist.append_left (List.sublist_append_right _ _) _)
            clear HO
            go_roundg (NA - (j + 1))
            case measure => have := HI.out; have := HQ.out; omega
            case rel => exact ⟨j + 1, E4, rfl, by have := HI.out; omega, rfl, H4, HO7⟩
          · obtain rfl : j = NA := by omega
            have hdj : decide ((j : Int) < (j : Int)) = false := by simp
            go_wp2_with (fail)
            go_ret
            exact ⟨rfl, HO.below⟩
  · have F := law_no (f := 0) kept v acts w ha hm
    have FF := Lib.hid F
    clear F ha hm hwf
    go_enter Try.func4, Try.ntmps4
    go_wp2_with (fail)
    go_at_call 23; refine (FF.out _ _ _ HO rfl).mono ?_; rintro e w1 ⟨m, rfl, HO1⟩
    clear HO
    go_wp2_with (fail)
    go_at_call 10; refine (awake_any HO1).mono ?_; rintro e w2 ⟨rfl, HO2⟩
    clear HO1
    go_wp2_with (fail)
    go_at_call 10; refine (awake_any HO2).mono ?_; rintro e w3 ⟨rfl, HO3⟩
    clear HO2
    go_wp2_with (fail)
    go_ret
    exact ⟨rfl, HO3.below⟩
end Go.Proofs.Ytkkgajlddlnghaa

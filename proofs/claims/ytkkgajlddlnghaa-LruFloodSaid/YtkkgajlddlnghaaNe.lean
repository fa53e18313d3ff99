/- However much is only added, what is kept stays kept. -/
import Derived.Test.YtkkgajlddlnghaaNd
namespace Go.Proofs.Ytkkgajlddlnghaa
set_option linter.unusedVariables false
set_option linter.unusedSimpArgs false
set_option linter.unnecessarySimpa false
open Go.RowKit Go.Proofs.YtkkgajlddlnghaaW.PrintLast Lr
namespace Lr
def flooded (s : S) (l : List Int) : S := l.foldl (fun s k => add s k 5) s
theorem flooded_take (s : S) (l : List Int) (i : Nat) (k : Int) (h : l[i]? = some k) : flooded s (l.take (i + 1)) = add (flooded s (l.take i)) k 5 := by
  unfold flooded
  rw [List.take_add_one, h, List.foldl_append]; rfl
theorem flooded_kept : ∀ (l : List Int) (s : S), (flooded s l).kept = s.kept
  | [], s => rfl
  | k :: l, s => by
    have := flooded_kept l (add s k 5)
    unfold flooded at this ⊢
    rw [List.foldl_cons, this, add_kept]
theorem order_len (s : S) : (order s).length = s.trial.length + s.kept.length := by unfold order all; simp
theorem order_kept (s : S) (i : Nat) (x : KV) (h : s.kept[i]? = some x) : (order s)[s.trial.length + i]? = some x.1 := by
  unfold order all
  rw [List.map_append, List.getElem?_append_right (by simp), List.length_map, Nat.add_sub_cancel_left, List.getElem?_map, h]; rfl
theorem IsP.at_ {w0 w : World} {L E : List Ent} {g n c j : Nat} {l : List Int} {k : Int} (h : IsP (.slice (some ⟨g, 0, none⟩) n c) l E) (HO : Own w0 w L) (hm : ∀ x ∈ E, x ∈ L) (hj : l[j]? = some k) : w.cell? ⟨g, j, none⟩ = some (.int .i64 k) := by
  obtain ⟨_, _, hv, _, _, hc⟩ := h.ri HO hm
  injection hv with e1 e2 e3
  subst e1
  obtain ⟨g', e, hc⟩ := hc j k hj
  injection e with e
  injection e with e
  rw [e]; exact hc
end Lr
theorem QKeptV {w0 w : World} {L E : List Ent} {g b c : Nat} {s : S} {z : Bool} (k : Int) (hP : LQ g b s E) (HO : Own w0 w (E ++ L)) (K : Ok s c) (hw : (Lit.int .i64 k).wf = true) (hz : isKept s k = z) :
    Calls Try.prog 21 #[.pointer (some ⟨g, 0, none⟩), .int .i64 k] w fun e w' => ∃ E', e = .returned (.bool z) ∧ LQ g b s E' ∧ Own w0 w' (E' ++ L) := by
  rw [← hz]; exact QKept k hP HO K hw
def keyRow (k : Int) : List Value := [.int .i64 k]
set_option maxRecDepth 20000 in
set_option maxHeartbeats 16000000 in
theorem LruFlood_any (kept : Int) (v v2 : Value) (acts : List Lr.Act) (fls : List Int) (w : World) (ha : ArgS w 3 v (acts.map actRow)) (hwf : ∀ a ∈ acts, (Lit.int .i64 a.2.1).wf = true) (ha2 : ArgS w 1 v2 (fls.map keyRow)) (hwf2 : ∀ a ∈ fls, (Lit.int .i64 a).wf = true) :
    Calls Try.prog 7 #[.int .i64 kept, v, v2] w fun e w' => e = .returned (.bool true) ∧ Below w.heap.size w w' := by
  have HO := Own.nil w
  by_cases hm : may kept acts
  · have F := Lib.hid (run_yes kept HO ha hwf hm)
    have hK := Lib.hid (run_all_ok hm hwf)
    obtain ⟨s, hs⟩ : ∃ s, run ⟨kept, [], []⟩ acts = s := ⟨_, rfl⟩
    rw [hs] at F hK
    obtain ⟨ao, cap, rfl, _, _, hrd⟩ := ha2
    rw [List.length_map]
    obtain ⟨N, hN⟩ : ∃ N, fls.length = N := ⟨_, rfl⟩
    rw [hN]
    have HN := Lib.hid hN
    have HRD := Lib.hid hrd
    have HWF := Lib.hid hwf2
    by_cases h60 : 60 < N
    · have hd : decide ((60 : Int) < (N : Int)) = true := decide_eq_true (by omega)
      clear HO ha hwf hm hs hN hrd hwf2 h60
      go_enter Try.func7, Try.ntmps7
      go_wp2_with (fail)
      go_at_call 23; refine F.out.mono ?_; rintro e w1 ⟨g, m, E1, E2, rfl, h1, h2, HO⟩
      go_wp2_with (fail)
      go_at_call 10; refine (awake_any HO).mono ?_; rintro e w2 ⟨rfl, HO1⟩
      clear HO h1 h2
      go_wp2_with (fail)
      go_at_call 10; refine (awake_any HO1).mono ?_; rintro e w2 ⟨rfl, HO2⟩
      clear HO1
      go_wp2_with (fail)
      go_ret
      exact ⟨rfl, HO2.below⟩
    have hd : decide ((60 : Int) < (N : Int)) = false := decide_eq_false (by omega)
    have H60 := Lib.hid (show N ≤ 60 by omega)
    clear HO ha hwf hm hs hN hrd hwf2 h60
    go_enter Try.func7, Try.ntmps7
    go_wp2_with (fail)
    go_at_call 23; refine F.out.mono ?_; rintro e w1 ⟨g, m, E1, E2, rfl, h1, h2, HO⟩
    go_wp2_with (fail)
    go_at_call 10; refine (awake_any HO).mono ?_; rintro e w2 ⟨rfl, HO1⟩
    clear HO
    have H1 := Lib.hid (show LQ g (120000 + 2000 * 0) (flooded s (fls.take 0)) E1 from h1)
    have H2 := Lib.hid h2
    have HK0 := Lib.hid (show Ok (flooded s (fls.take 0)) (60 + 0) from hK.out)
    clear h1 h2
    go_wp2_with (fail)
    go_loopg [39] N (fun q vi wr => ∃ (i : Nat) (E1 : List Ent), vi = .int .i64 (i : Int) ∧ i ≤ N ∧ q = N - i ∧ Hid (LQ g (120000 + 2000 * i) (flooded s (fls.take i)) E1) ∧ Hid (Ok (flooded s (fls.take i)) (60 + i)) ∧ Own w wr (E1 ++ (E2 ++ [])))
    case atStart => exact ⟨0, E1, by rfl, by omega, by omega, H1, HK0, HO1⟩
    case round =>
      clear HO1 H1 HK0 E1
      obtain ⟨i, E1, rfl, i1, hq, h1, hKi, HO⟩ := hrel
      rcases Nat.lt_or_ge i N with hi | hi
      · have hdi : decide ((i : Int) < (N : Int)) = true := decide_eq_true (by omega)
        have hwi : IntKind.i64.wrap ((i : Int) + 1) = ((i + 1 : Nat) : Int) := by rw [IntWalk.i64_in _ (by have := H60.out; omega)]; rfl
        have hb0 : (0 : Int) ≤ (i : Int) := by omega
        have hb1 : (i : Int) < (N : Int) := by omega
        obtain ⟨k, hact⟩ : ∃ p, fls[i]? = some p := ⟨_, List.getElem?_eq_getElem (by rw [HN.out]; exact hi)⟩
        obtain ⟨ad, rfl, hcell⟩ := HRD.out i (keyRow k) (by simp [hact])
        have hc0 : w.cell? (ad.add i) = some (.int .i64 k) := by
          have := hcell 0 (.int .i64 k) rfl
          simpa [Addr.add] using this
        have HC := Lib.hid hc0
        have hst := Lib.hid (flooded_take s fls i _ hact)
        have hkw := Lib.hid (HWF.out _ (List.mem_of_getElem? hact))
        have HI := Lib.hid hi
        have HQ := Lib.hid hq
        clear hact hcell hc0 hi hq
        go_wp2_with (refine li_loadAt 2 rfl rfl rfl (HO.old HC.out) (by kernel_rfl) ?_)
        go_at_call 25; refine (QAdd k 5 h1.out HO hKi.out (by have := H60.out; omega) hkw.out (by have := H60.out; omega)).mono ?_; rw [← hst.out]; rintro e w5 ⟨E6, rfl, h6, HO3⟩
        have H6 := Lib.hid (show LQ g (120000 + 2000 * (i + 1)) _ E6 from h6)
        have HK6 := Lib.hid (show Ok (flooded s (fls.take (i + 1))) (60 + (i + 1)) by rw [hst.out]; exact add_ok hKi.out k 5 hkw.out)
        clear HO h1 h6
        go_wp2_with (fail)
        go_roundg (N - (i + 1))
        case measure => have := HI.out; have := HQ.out; omega
        case rel => exact ⟨i + 1, E6, rfl, by have := HI.out; omega, rfl, H6, HK6, HO3⟩
      · obtain rfl : i = N := by omega
        have hdi : decide ((i : Int) < (i : Int)) = false := by simp
        rw [List.take_of_length_le (by rw [HN.out]; omega)] at h1 hKi
        have hfk := flooded_kept fls s
        obtain ⟨t, ht⟩ : ∃ t, flooded s fls = t := ⟨_, rfl⟩
        rw [ht] at h1 hKi hfk
        have HKi := Lib.hid (hKi.out.mono (show 60 + i ≤ 200 by have := H60.out; omega))
        obtain ⟨T, hT⟩ : ∃ T, t.trial.length = T := ⟨_, rfl⟩
        obtain ⟨M, hM⟩ : ∃ M, s.kept.length = M := ⟨_, rfl⟩
        have hol : (order t).length = T + M := by rw [order_len, hfk, hT, hM]
        obtain ⟨LO, hLO⟩ : ∃ LO, T + M = LO := ⟨_, rfl⟩
        rw [hLO] at hol
        have HOL := Lib.hid hol
        have HFK := Lib.hid hfk
        have HM := Lib.hid hM
        have hok := Lib.hid (show ∀ (j : Nat) (x : KV), s.kept[j]? = some x → (order t)[T + j]? = some x.1 from fun j x hj => by rw [← hT]; exact order_kept t j x (by rw [hfk]; exact hj))
        have hbd : T + M ≤ 200 := by rw [hLO, ← hol, order_len]; have := HKi.out.len; unfold all at this; simp at this; omega
        clear ht hT hol hfk hM
        go_wp2_with (fail)
        go_at_call 15; refine (QOrder h1.out HO HKi.out (by decide)).mono ?_; rintro e w4 ⟨E4, vo, Eo, rfl, hvo, h4, HO1⟩
        clear HO h1
        obtain ⟨vt, vk, Et, Ek, hsT, hsK, hE2⟩ := H2.out
        have HE2 := Lib.hid hE2
        have HV := Lib.hid hvo
        have H4 := Lib.hid h4
        obtain ⟨ao, co, rfl, _, _, _⟩ := hvo.ri HO1 (fun x hx => by simp [hx])
        obtain ⟨aoK, cK, rfl, _, _, _⟩ := hsK.rd HO1 (fun x hx => by rw [hE2]; simp [hx])
        have HSK := Lib.hid hsK
        rw [HM.out] at HSK HE2
        rw [HOL.out] at HV ⊢
        have cm := HO1.cellsM (t := 32) (xs := [.int .i64 s.most, vt, .slice aoK M cK]) (g := m) (by rw [HE2.out]; simp) 2 rfl
        have dlen : decide ((LO : Int) < (M : Int)) = false := decide_eq_false (by omega)
        clear hvo h4 hE2 hsT hsK
        go_wp2_with (refine li_loadAt 30 rfl rfl rfl cm (by kernel_rfl) ?_)
        go_loopg [63] M (fun q vi wr => ∃ (j : Nat) (E : List Ent), vi = .int .i64 (j : Int) ∧ j ≤ M ∧ q = M - j ∧ Hid (LQ g (120000 + 2000 * i) t E) ∧ Own w wr (E ++ (Eo ++ (E2 ++ []))))
        case atStart => exact ⟨0, E4, by rfl, by omega, by omega, H4, HO1⟩
        case round =>
          clear HO1 H4 E4 cm hdi
          obtain ⟨j, E, rfl, j1, hq, h1, HO⟩ := hrel
          rcases Nat.lt_or_ge j M with hj | hj
          · have hdj : decide ((j : Int) < (M : Int)) = true := decide_eq_true (by omega)
            have hwj : IntKind.i64.wrap ((j : Int) + 1) = ((j + 1 : Nat) : Int) := by rw [IntWalk.i64_in _ (by omega)]; rfl
            have hb0 : (0 : Int) ≤ (j : Int) := by omega
            have hb1 : (j : Int) < (M : Int) := by omega
            obtain ⟨TJ, hTJ⟩ : ∃ TJ, T + j = TJ := ⟨_, rfl⟩
            have hwT : IntKind.i64.wrap ((LO : Int) - (M : Int)) = (T : Int) := by rw [IntWalk.i64_in _ (by omega)]; omega
            have hwTj : IntKind.i64.wrap ((T : Int) + (j : Int)) = (TJ : Int) := by rw [IntWalk.i64_in _ (by omega)]; omega
            have hc0 : (0 : Int) ≤ (TJ : Int) := by omega
            have hc1 : (TJ : Int) < (LO : Int) := by omega
            obtain ⟨⟨k, n⟩, hx⟩ : ∃ x, s.kept[j]? = some x := ⟨_, List.getElem?_eq_getElem (by rw [HM.out]; exact hj)⟩
            obtain ⟨_, _, hv, _, _, hcell⟩ := HSK.out.rd HO (fun x hx => by rw [HE2.out]; simp [hx])
            injection hv with q1 q2 q3
            subst q1
            obtain ⟨gx, rfl, k0, k1⟩ := hcell j _ hx
            have hor := hok.out j _ hx
            rw [hTJ] at hor
            obtain ⟨_, _, hv, _, _, hcell2⟩ := HV.out.ri HO (fun x hx => by simp [hx])
            injection hv with q1' q2' q3'
            subst q1'
            obtain ⟨go, rfl, _⟩ := hcell2 _ _ hor
            have HOR := Lib.hid hor
            have hmk := List.mem_of_getElem? hx
            have HKK := Lib.hid (show isKept t k = true from isKept_true (n := n) (by rw [HFK.out]; exact hmk))
            have HKW := Lib.hid (show (Lit.int .i64 k).wf = true from HKi.out.ks (k, n) (all_mem.2 (.inr (by rw [HFK.out]; exact hmk))))
            have HI := Lib.hid hj
            have HQ := Lib.hid hq
            have ekk : (k != k) = false := by simp
            clear hcell hcell2 hx hor hmk hj hq q2 q3 q2' q3' hTJ
            go_upto_region 16 with (first | (refine li_loadAggAt 50 2 (vs := [.int .i64 k, .int .i64 n]) rfl rfl rfl (pair_at (x := (k, n)) k0 k1) rfl (by kernel_rfl) (by kernel_rfl) (by kernel_rfl) ?_) | (refine li_alloc (t := 50) rfl rfl (z := .agg #[.int .i64 0, .int .i64 0]) (cs := [.int .i64 0, .int .i64 0]) (by kernel_rfl) rfl HO ?_; clear HO; intro ga wa HO) | (refine li_storeAgg 0 50 rfl rfl rfl rfl HO rfl rfl rfl rfl (by kernel_rfl) ?_; clear HO; intro ws HO; simp only [List.set_cons_zero] at HO))
            replace HO : Own w ws (E ++ ([(ga, CellsP 50 [.int .i64 k, .int .i64 n])] ++ (Eo ++ (E2 ++ [])))) := Own.mid (A := [_]) HO
            refine start_ (n := 19) (S := fun w' => w'.cell? ⟨go, TJ, none⟩ = some (.int .i64 k) ∧ w'.cell? ⟨ga, 0, none⟩ = some (.int .i64 k)) (ds := []) #[false, false, false, false, false, false, false, false, false, false, false, false, false, false, false, false, false, false, false] (by kernel_rfl) rfl rfl ⟨(HV.out.at_ HO.drew (fun x hx => by simp [hx]) HOR.out), (HO.drew.cellsM (t := 50) (xs := [.int .i64 k, .int .i64 n]) (by simp) 0 rfl)⟩ (fun hHeld => ?_)
            replace HO := HO.drew
            refine pure_ (i := 0) (N := some 68) (v := ?_) (a' := ?_) #[true, false, false, false, false, false, false, false, false, false, false, false, false, false, false, false, false, false, false] rfl rfl (by kernel_rfl) (fun _ _ _ h => h) (Or.inl ⟨by rfl, ?_⟩) ?_ ?_
            rotate_left
            · intro w'
              go_simp
              with_reducible rfl
            rotate_left
            · simp only [Act.put, List.setIfInBounds_toArray, List.set_cons_zero, List.set_cons_succ, i64_w, i32_w]
              rfl
            refine pure_ (i := 1) (N := some 69) (v := ?_) (a' := ?_) #[true, true, false, false, false, false, false, false, false, false, false, false, false, false, false, false, false, false, false] rfl rfl (by kernel_rfl) (fun _ _ _ h => h) (Or.inl ⟨by rfl, ?_⟩) ?_ ?_
            rotate_left
            · intro w'
              go_simp
              with_reducible rfl
            rotate_left
            · simp only [Act.put, List.setIfInBounds_toArray, List.set_cons_zero, List.set_cons_succ, i64_w, i32_w]
              rfl
            refine pure_ (i := 2) (N := some 70) (v := ?_) (a' := ?_) #[true, true, true, false, false, false, false, false, false, false, false, false, false, false, false, false, false, false, false] rfl rfl (by kernel_rfl) (fun _ _ _ h => h) (Or.inl ⟨by rfl, ?_⟩) ?_ ?_
            rotate_left
            · intro w'
              go_simp
              with_reducible rfl
            rotate_left
            · simp only [Act.put, List.setIfInBounds_toArray, List.set_cons_zero, List.set_cons_succ, i64_w, i32_w]
              rfl
            refine pure_ (i := 3) (N := some 71) (v := ?_) (a' := ?_) #[true, true, true, true, false, false, false, false, false, false, false, false, false, false, false, false, false, false, false] rfl rfl (by kernel_rfl) (fun _ _ _ h => h) (Or.inl ⟨by rfl, ?_⟩) ?_ ?_
            rotate_left
            · intro w'
              go_simp
              with_reducible rfl
            rotate_left
            · simp only [Act.put, List.setIfInBounds_toArray, List.set_cons_zero, List.set_cons_succ, i64_w, i32_w]
              rfl
            refine pure_ (i := 4) (N := some 72) (v := ?_) (a' := ?_) #[true, true, true, true, true, false, false, false, false, false, false, false, false, false, false, false, false, false, false] rfl rfl (by kernel_rfl) (fun _ _ _ h => h) (Or.inl ⟨by rfl, ?_⟩) ?_ ?_
            rotate_left
            · intro w'
              go_simp
              with_reducible rfl
            rotate_left
            · simp only [Act.put, List.setIfInBounds_toArray, List.set_cons_zero, List.set_cons_succ, i64_w, i32_w]
              rfl
            refine pure_ (i := 5) (N := some 73) (v := ?_) (a' := ?_) #[true, true, true, true, true, true, false, false, false, false, false, false, false, false, false, false, false, false, false] rfl rfl (by kernel_rfl) (fun _ _ _ h => h) (Or.inl ⟨by rfl, ?_⟩) ?_ ?_
            rotate_left
            · intro w'
              go_simp
              with_reducible rfl
            rotate_left
            · simp only [Act.put, List.setIfInBounds_toArray, List.set_cons_zero, List.set_cons_succ, i64_w, i32_w]
              rfl
            refine pure_ (i := 6) (N := some 74) (v := ?_) (a' := ?_) #[true, true, true, true, true, true, true, false, false, false, false, false, false, false, false, false, false, false, false] rfl rfl (by kernel_rfl) (fun _ _ _ h => h) (Or.inl ⟨by rfl, ?_⟩) ?_ ?_
            rotate_left
            · intro w'
              go_simp
              with_reducible rfl
            rotate_left
            · simp only [Act.put, List.setIfInBounds_toArray, List.set_cons_zero, List.set_cons_succ, i64_w, i32_w]
              rfl
            refine pure_ (i := 7) (N := some 75) (v := ?_) (a' := ?_) #[true, true, true, true, true, true, true, true, false, false, false, false, false, false, false, false, false, false, false] rfl rfl (by kernel_rfl) (fun _ _ _ h => h) (Or.inl ⟨by rfl, ?_⟩) ?_ ?_
            rotate_left
            · intro w'
              go_simp
              with_reducible rfl
            rotate_left
            · simp only [Act.put, List.setIfInBounds_toArray, List.set_cons_zero, List.set_cons_succ, i64_w, i32_w]
              rfl
            refine pure_ (i := 9) (N := some 77) (v := ?_) (a' := ?_) #[true, true, true, true, true, true, true, true, false, true, false, false, false, false, false, false, false, false, false] rfl rfl (by kernel_rfl) (fun _ _ _ h => h) (Or.inl ⟨by rfl, ?_⟩) ?_ ?_
            rotate_left
            · intro w'
              go_simp
              with_reducible rfl
            rotate_left
            · simp only [Act.put, List.setIfInBounds_toArray, List.set_cons_zero, List.set_cons_succ, i64_w, i32_w]
              rfl
            refine take_ (i := 8) (N := some 76) (v := ?_) (a' := ?_) #[true, true, true, true, true, true, true, true, true, true, false, false, false, false, false, false, false, false, false] rfl rfl (by kernel_rfl) (fun _ _ _ h => h) (Or.inl ⟨by rfl, ?_⟩) hHeld ?_ ?_
            rotate_left
            · rintro w' ⟨s0, s1⟩
              go_simp
              with_reducible rfl
            rotate_left
            · simp only [Act.put, List.setIfInBounds_toArray, List.set_cons_zero, List.set_cons_succ, i64_w, i32_w]
              rfl
            refine take_ (i := 10) (N := some 78) (v := ?_) (a' := ?_) #[true, true, true, true, true, true, true, true, true, true, true, false, false, false, false, false, false, false, false] rfl rfl (by kernel_rfl) (fun _ _ _ h => h) (Or.inl ⟨by rfl, ?_⟩) hHeld ?_ ?_
            rotate_left
            · rintro w' ⟨s0, s1⟩
              go_simp
              with_reducible rfl
            rotate_left
            · simp only [Act.put, List.setIfInBounds_toArray, List.set_cons_zero, List.set_cons_succ, i64_w, i32_w]
              rfl
            refine pure_ (i := 11) (N := some 79) (v := ?_) (a' := ?_) #[true, true, true, true, true, true, true, true, true, true, true, true, false, false, false, false, false, false, false] rfl rfl (by kernel_rfl) (fun _ _ _ h => h) (Or.inl ⟨by rfl, ?_⟩) ?_ ?_
            rotate_left
            · intro w'
              go_simp
              with_reducible rfl
            rotate_left
            · simp only [Act.put, List.setIfInBounds_toArray, List.set_cons_zero, List.set_cons_succ, i64_w, i32_w]
              rfl
            refine pure_ (i := 12) (N := some 80) (v := ?_) (a' := ?_) #[true, true, true, true, true, true, true, true, true, true, true, true, true, false, false, false, false, false, false] rfl rfl (by kernel_rfl) (fun _ _ _ h => h) (Or.inl ⟨by rfl, ?_⟩) ?_ ?_
            rotate_left
            · intro w'
              go_simp
              with_reducible rfl
            rotate_left
            · simp only [Act.put, List.setIfInBounds_toArray, List.set_cons_zero, List.set_cons_succ, i64_w, i32_w]
              rfl
            refine pure_ (i := 13) (N := some 81) (v := ?_) (a' := ?_) #[true, true, true, true, true, true, true, true, true, true, true, true, true, true, false, false, false, false, false] rfl rfl (by kernel_rfl) (fun _ _ _ h => h) (Or.inl ⟨by rfl, ?_⟩) ?_ ?_
            rotate_left
            · intro w'
              go_simp
              with_reducible rfl
            rotate_left
            · simp only [Act.put, List.setIfInBounds_toArray, List.set_cons_zero, List.set_cons_succ, i64_w, i32_w]
              rfl
            refine pure_ (i := 14) (N := some 82) (v := ?_) (a' := ?_) #[true, true, true, true, true, true, true, true, true, true, true, true, true, true, true, false, false, false, false] rfl rfl (by kernel_rfl) (fun _ _ _ h => h) (Or.inl ⟨by rfl, ?_⟩) ?_ ?_
            rotate_left
            · intro w'
              go_simp
              with_reducible rfl
            rotate_left
            · simp only [Act.put, List.setIfInBounds_toArray, List.set_cons_zero, List.set_cons_succ, i64_w, i32_w]
              rfl
            refine take_ (i := 15) (N := some 83) (v := ?_) (a' := ?_) #[true, true, true, true, true, true, true, true, true, true, true, true, true, true, true, true, false, false, false] rfl rfl (by kernel_rfl) (fun _ _ _ h => h) (Or.inl ⟨by rfl, ?_⟩) hHeld ?_ ?_
            rotate_left
            · rintro w' ⟨s0, s1⟩
              go_simp
              with_reducible rfl
            rotate_left
            · simp only [Act.put, List.setIfInBounds_toArray, List.set_cons_zero, List.set_cons_succ, i64_w, i32_w]
              rfl
            refine one_ (i := 16) (N := some 84) #[true, true, true, true, true, true, true, true, true, true, true, true, true, true, true, true, true, false, false] rfl rfl (by kernel_rfl) (by decide) (fun K hK => ?_)
            refine goes_ Try.func21 (by kernel_rfl) rfl #[.pointer (some ⟨g, 0, none⟩), .int .i64 k] (by rfl) rfl rfl (by simp only [List.map_toArray, List.map_cons, List.map_nil]; rfl) ?_
            with_reducible refine (QKeptV k h1.out HO HKi.out HKW.out HKK.out).mono ?_
            rintro e w6 ⟨E6, rfl, h6, HO5⟩
            refine ⟨_, rfl, ?_⟩
            have H6 := Lib.hid h6
            clear HO h1 h6
            have HO := HO5
            clear HO5
            refine hK.out _ _ ⟨(HV.out.at_ HO (fun x hx => by simp [hx]) HOR.out), (HO.cellsM (t := 50) (xs := [.int .i64 k, .int .i64 n]) (by simp) 0 rfl)⟩ (fun hHeld => ?_)
            clear hK K
            refine norm_ (a' := ?_) ?_ ?_
            rotate_left
            · show Act.put _ (some 84) _ = _
              simp only [Act.put, List.setIfInBounds_toArray, List.set_cons_zero, List.set_cons_succ, i64_w, i32_w]
              rfl
            refine pure_ (i := 17) (N := some 85) (v := ?_) (a' := ?_) #[true, true, true, true, true, true, true, true, true, true, true, true, true, true, true, true, true, true, false] rfl rfl (by kernel_rfl) (fun _ _ _ h => h) (Or.inl ⟨by rfl, ?_⟩) ?_ ?_
            rotate_left
            · intro w'
              go_simp
              with_reducible rfl
            rotate_left
            · simp only [Act.put, List.setIfInBounds_toArray, List.set_cons_zero, List.set_cons_succ, i64_w, i32_w]
              rfl
            refine pure_ (i := 18) (N := some 86) (v := ?_) (a' := ?_) #[true, true, true, true, true, true, true, true, true, true, true, true, true, true, true, true, true, true, true] rfl rfl (by kernel_rfl) (fun _ _ _ h => h) (Or.inl ⟨by rfl, ?_⟩) ?_ ?_
            rotate_left
            · intro w'
              go_simp
              with_reducible rfl
            rotate_left
            · simp only [Act.put, List.setIfInBounds_toArray, List.set_cons_zero, List.set_cons_succ, i64_w, i32_w]
              rfl
            refine done_ (by kernel_rfl) ?_
            have HO7 : Own w w6 (E6 ++ (Eo ++ (E2 ++ []))) := HO.sub (List.Sublist.append_left (List.sublist_append_right _ _) _)
            clear HO
            go_wp2_with (fail)
            go_roundg (M - (j + 1))
            case measure => have := HI.out; have := HQ.out; omega
            case rel => exact ⟨j + 1, E6, rfl, by have := HI.out; omega, rfl, H6, HO7⟩
          · obtain rfl : j = M := by omega
            have hdj : decide ((j : Int) < (j : Int)) = false := by simp
            go_wp2_with (fail)
            go_at_call 17; refine (QBytes h1.out HO).mono ?_; rw [HFK.out]; rintro e w4 ⟨E4, rfl, h4, HO1⟩
            clear HO h1
            go_wp2_with (fail)
            go_at_call 18; refine (RBytes_any (H2.out.rw HO1.third) hK.out (by decide)).mono ?_; rintro e w5 ⟨rfl, HR⟩
            obtain ⟨E5, h5, HO2⟩ := HR.open_
            have eqq : (sum s.kept == sum s.kept) = true := by simp
            go_wp2_with (fail)
            go_ret
            exact ⟨rfl, HO2.below⟩
  · have F := law_no (f := 0) kept v acts w ha hm
    have FF := Lib.hid F
    clear F ha hm hwf
    go_enter Try.func7, Try.ntmps7
    go_wp2_with (fail)
    go_at_call 23; refine (FF.out _ _ _ HO rfl).mono ?_; rintro e w1 ⟨m, rfl, HO1⟩
    clear HO
    go_wp2_with (fail)
    go_at_call 10; refine (awake_any HO1).mono ?_; rintro e w2 ⟨rfl, HO2⟩
    clear HO1
    go_wp2_with (fail)
    go_at_call 10; refine (awake_any HO2).mono ?_; rintro e w3 ⟨rfl, HO3⟩
    clear HO2
    go_wp2_with (fail)
    go_ret
    exact ⟨rfl, HO3.below⟩
end Go.Proofs.Ytkkgajlddlnghaa

/- The bytes that are told are those of all things, and of the kept ones. -/
import Derived.Test.YtkkgajlddlnghaaNa
namespace Go.Proofs.Ytkkgajlddlnghaa
set_option linter.unusedVariables false
set_option linter.unusedSimpArgs false
set_option linter.unnecessarySimpa false
open Go.RowKit Go.Proofs.YtkkgajlddlnghaaW.PrintLast Lr
namespace Lr
def sumK (s : S) (l : List KV) : Int := sum (l.filter fun x => isKept s x.1)
theorem sumK_take (s : S) (l : List KV) (i : Nat) (x : KV) (h : l[i]? = some x) : sumK s (l.take (i + 1)) = sumK s (l.take i) + if isKept s x.1 then x.2 else 0 := by
  unfold sumK
  rw [List.take_add_one, h, List.filter_append, sum_append]
  cases hk : isKept s x.1 with
  | true => simp [List.filter, hk, sum]
  | false => simp [List.filter, hk, sum]
theorem sumK_all {s : S} {c : Nat} (K : Ok s c) : sumK s (all s) = sum s.kept := by
  unfold sumK all
  rw [List.filter_append, sum_append]
  have h1 : s.trial.filter (fun x => isKept s x.1) = [] := by
    rw [List.filter_eq_nil_iff]
    intro x hx
    rw [isKept_false (n := x.2) K hx]; simp
  have h2 : s.kept.filter (fun x => isKept s x.1) = s.kept := by
    rw [List.filter_eq_self]
    intro x hx
    exact isKept_true (n := x.2) hx
  rw [h1, h2]; simp [sum]
theorem sumK_bd (s : S) (l : List KV) (h : ∀ x ∈ l, 1 ≤ x.2 ∧ x.2 ≤ 1099511627776) : 0 ≤ sumK s l ∧ sumK s l ≤ 1099511627776 * (l.length : Int) := by
  have := sum_bounds (l.filter fun x => isKept s x.1) (fun x hx => h x (List.mem_filter.1 hx).1)
  have hl := List.length_filter_le (fun x : KV => isKept s x.1) l
  unfold sumK
  omega
theorem sum_all (s : S) : sum (all s) = sum s.trial + sum s.kept := sum_append _ _
end Lr
set_option maxRecDepth 20000 in
set_option maxHeartbeats 16000000 in
theorem LruBytes_any (kept : Int) (v : Value) (acts : List Lr.Act) (w : World) (ha : ArgS w 3 v (acts.map actRow)) (hwf : ∀ a ∈ acts, (Lit.int .i64 a.2.1).wf = true) :
    Calls Try.prog 5 #[.int .i64 kept, v] w fun e w' => e = .returned (.bool true) ∧ Below w.heap.size w w' := by
  have HO := Own.nil w
  by_cases hm : may kept acts
  · have F := Lib.hid (run_yes kept HO ha hwf hm)
    have hK := Lib.hid (run_all_ok hm hwf)
    have hmost := run_most acts ⟨kept, [], []⟩
    obtain ⟨s, hs⟩ : ∃ s, run ⟨kept, [], []⟩ acts = s := ⟨_, rfl⟩
    rw [hs] at F hK hmost
    have hle : sum s.kept ≤ kept := by have := hK.out.le; rw [hmost] at this; exact this
    obtain ⟨A, hA⟩ : ∃ A, all s = A := ⟨_, rfl⟩
    have HAA := Lib.hid hA
    have hlen := hK.out.len
    have hby := hK.out.by_
    have hks := hK.out.ks
    rw [hA] at hlen hby hks
    have hord : order s = A.map (·.1) := by unfold order; rw [hA]
    obtain ⟨N, hN⟩ : ∃ N, A.length = N := ⟨_, rfl⟩
    have HN := Lib.hid hN
    rw [hN] at hlen
    have HBY := Lib.hid hby
    have HKS := Lib.hid hks
    have HORD := Lib.hid hord
    have HS1 := Lib.hid (show sum A = sum s.trial + sum s.kept by rw [← hA, sum_all])
    have HS2 := Lib.hid (show sumK s A = sum s.kept by rw [← hA]; exact sumK_all hK.out)
    have dle : decide (sum s.kept ≤ kept) = true := decide_eq_true hle
    obtain ⟨P, hP⟩ : ∃ P, sum s.trial + sum s.kept = P := ⟨_, rfl⟩
    obtain ⟨Q, hQ⟩ : ∃ Q, sum s.kept = Q := ⟨_, rfl⟩
    have HP := Lib.hid hP
    have HQ := Lib.hid hQ
    rw [hP] at HS1
    rw [hQ] at HS2 dle
    have e1 : (P == P) = true := by simp
    have e2 : (Q == Q) = true := by simp
    clear HO ha hwf hm hs hmost hle hA hby hks hord hN hP hQ
    go_enter Try.func5, Try.ntmps5
    go_wp2_with (fail)
    go_at_call 23; refine F.out.mono ?_; rintro e w1 ⟨g, m, E1, E2, rfl, h1, h2, HO⟩
    go_wp2_with (fail)
    go_at_call 10; refine (awake_any HO).mono ?_; rintro e w2 ⟨rfl, HO1⟩
    clear HO h2
    go_wp2_with (fail)
    go_at_call 15; refine (QOrder h1 HO1 hK.out (by decide)).mono ?_; rw [HORD.out]; rintro e w3 ⟨E3, vo, Eo, rfl, hv, h3, HO⟩
    clear HO1 h1
    obtain ⟨ao, co, rfl, _, _, _⟩ := hv.ri HO (fun x hx => by simp [hx])
    have HV := Lib.hid hv
    have HLm := Lib.hid (show (A.map (·.1)).length = N by rw [List.length_map, HN.out])
    rw [HLm.out] at HV ⊢
    have H3 := Lib.hid h3
    clear hv h3
    go_wp2_with (fail)
    go_loopg [7, 8, 31] N (fun q va vs vi wr => ∃ (i : Nat) (E : List Ent), vi = .int .i64 (i : Int) ∧ i ≤ N ∧ q = N - i ∧ va = .int .i64 (sum (A.take i)) ∧ vs = .int .i64 (sumK s (A.take i)) ∧ Hid (LQ g 120000 s E) ∧ Own w wr (E ++ (Eo ++ (E2 ++ []))))
    case atStart => exact ⟨0, E3, by rfl, by omega, by omega, by rfl, by rfl, H3, HO⟩
    case round =>
      clear HO H3 E3
      obtain ⟨i, E, rfl, i1, hq, rfl, rfl, h1, HO⟩ := hrel
      rcases Nat.lt_or_ge i N with hi | hi
      · have hdi : decide ((i : Int) < (N : Int)) = true := decide_eq_true (by omega)
        have hwi : IntKind.i64.wrap ((i : Int) + 1) = ((i + 1 : Nat) : Int) := by rw [IntWalk.i64_in _ (by omega)]; rfl
        have hb0 : (0 : Int) ≤ (i : Int) := by omega
        have hb1 : (i : Int) < (N : Int) := by omega
        obtain ⟨⟨k, n⟩, hx⟩ : ∃ x, A[i]? = some x := ⟨_, List.getElem?_eq_getElem (by rw [HN.out]; exact hi)⟩
        have hmem := List.mem_of_getElem? hx
        obtain ⟨_, _, hv, _, _, hcell⟩ := HV.out.ri HO (fun x hx => by simp [hx])
        injection hv with q1 q2 q3
        subst q1
        obtain ⟨gx, rfl, c0⟩ := hcell i k (by simp [hx])
        have hn := HBY.out _ hmem
        have hs1 := take_sum A i _ hx
        have hs2 := sumK_take s A i _ hx
        have hh : has s k = some n := has_of hK.out (by rw [HAA.out]; exact hmem)
        have hii : isIn s k = true := isIn_of (n := n) (by rw [HAA.out]; exact hmem)
        have hkw := HKS.out _ hmem
        have bd1 := sum_bounds (A.take i) (fun x hx => HBY.out x (List.mem_of_mem_take hx))
        have bd2 := sumK_bd s (A.take i) (fun x hx => HBY.out x (List.mem_of_mem_take hx))
        have hlt : (A.take i).length = i := by rw [List.length_take, HN.out]; omega
        rw [hlt] at bd1 bd2
        have HH := Lib.hid hh
        have HII := Lib.hid hii
        have HKW := Lib.hid hkw
        have HS1' := Lib.hid hs1
        have HS2' := Lib.hid hs2
        obtain ⟨X, hX⟩ : ∃ X, sum (A.take i) = X := ⟨_, rfl⟩
        obtain ⟨Y, hY⟩ : ∃ Y, sumK s (A.take i) = Y := ⟨_, rfl⟩
        have HX := Lib.hid hX
        have HY := Lib.hid hY
        rw [hX] at bd1 ⊢
        rw [hY] at bd2 ⊢
        simp only at hn
        have hwx : IntKind.i64.wrap (X + n) = X + n := IntWalk.i64_in _ (by omega)
        have hwy : IntKind.i64.wrap (Y + n) = Y + n := IntWalk.i64_in _ (by omega)
        have HI := Lib.hid hi
        have HQQ := Lib.hid hq
        clear hx hmem hcell hs1 hs2 hh hii hkw hlt hX hY hi hq q2 q3
        go_wp2_with (refine li_loadAt 2 rfl rfl rfl c0 (by kernel_rfl) ?_)
        go_at_call 19; refine (QHas k h1.out HO hK.out HKW.out).mono ?_; rw [HH.out, HII.out]; rintro e w4 ⟨E4, rfl, h4, HO1⟩
        clear HO h1 c0
        go_wp2_with (fail)
        go_at_call 21; refine (QKept k h4 HO1 hK.out HKW.out).mono ?_
        cases hkk : isKept s k with
        | true =>
          rintro e w5 ⟨E5, rfl, h5, HO2⟩
          have H5 := Lib.hid h5
          have hz := HS2'.out
          simp only [hkk, if_true] at hz
          have HZ := Lib.hid hz
          clear HO1 h4 h5 hkk hz
          go_wp2_with (fail)
          go_roundg (N - (i + 1))
          case measure => have := HI.out; have := HQQ.out; omega
          case rel => exact ⟨i + 1, E5, rfl, by have := HI.out; omega, rfl, by rw [HS1'.out, HX.out], by rw [HZ.out, HY.out], H5, HO2⟩
        | false =>
          rintro e w5 ⟨E5, rfl, h5, HO2⟩
          have H5 := Lib.hid h5
          have hz := HS2'.out
          simp only [hkk, if_false, Bool.false_eq_true] at hz
          have HZ := Lib.hid hz
          clear HO1 h4 h5 hkk hz
          go_wp2_with (fail)
          go_roundg (N - (i + 1))
          case measure => have := HI.out; have := HQQ.out; omega
          case rel => exact ⟨i + 1, E5, rfl, by have := HI.out; omega, rfl, by rw [HS1'.out, HX.out], by rw [HZ.out, HY.out, Int.add_zero], H5, HO2⟩
      · obtain rfl : i = N := by omega
        have hdi : decide ((i : Int) < (i : Int)) = false := by simp
        rw [List.take_of_length_le (by rw [HN.out]; omega), HS1.out, HS2.out]
        go_wp2_with (fail)
        go_at_call 17; refine (QBytes h1.out HO).mono ?_; rw [HP.out, HQ.out]; rintro e w4 ⟨E4, rfl, h4, HO1⟩
        clear HO h1
        go_wp2_with (fail)
        go_ret
        exact ⟨rfl, HO1.below⟩
  · have F := law_no (f := 0) kept v acts w ha hm
    have FF := Lib.hid F
    clear F ha hm hwf
    go_enter Try.func5, Try.ntmps5
    go_wp2_with (fail)
    go_at_call 23; refine (FF.out _ _ _ HO rfl).mono ?_; rintro e w1 ⟨m, rfl, HO1⟩
    clear HO
    go_wp2_with (fail)
    go_at_call 10; refine (awake_any HO1).mono ?_; rintro e w2 ⟨rfl, HO2⟩
    clear HO1
    go_wp2_with (fail)
    go_at_call 10; refine (awake_any HO2).mono ?_; rintro e w3 ⟨rfl, HO3⟩
    clear HO2
    go_wp2_with (fail)
    go_ret
    exact ⟨rfl, HO3.below⟩
end Go.Proofs.Ytkkgajlddlnghaa

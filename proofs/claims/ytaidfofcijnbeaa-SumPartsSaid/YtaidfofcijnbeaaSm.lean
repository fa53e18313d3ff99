/- The law on parts. -/
import Derived.Test.YtaidfofcijnbeaaSk
import Derived.Test.YtaidfofcijnbeaaWLast
namespace Go.Proofs.Ytaidfofcijnbeaa
set_option linter.unusedVariables false
set_option linter.unusedSimpArgs false
set_option linter.unnecessarySimpa false
open Go.RowKit Go.Proofs.YtaidfofcijnbeaaW.PrintLast
theorem add_zero_ (a : Addr) (j : Nat) : (a.add 0).add j = a.add j := by simp [Addr.add]
theorem add_add_ (a : Addr) (k j : Nat) : (a.add k).add j = a.add (k + j) := by
  unfold Addr.add
  split <;> split <;> simp_all [Nat.add_assoc]
/-- What a slice's first part, and its rest, read as. -/
theorem Bs_cut {w : World} {ao : Option Addr} {n cap : Nat} {l : List (BitVec 8)} (h : Bs w (.slice ao n cap) l) (K : Nat) (hK : K ≤ n) :
    ∃ v1 v2, (∀ (P : Program) (W : World), P.underlying 22 = some (.slice 5) → (P.info? 5).map (·.size) = some 1 → (Instr.slice 22 (.slice ao n cap) none (some (.int .i64 (K : Int))) none).run P W = .ok v1 W ∧ (Instr.slice 22 (.slice ao n cap) (some (.int .i64 (K : Int))) none none).run P W = .ok v2 W) ∧ Bs w v1 (l.take K) ∧ Bs w v2 (l.drop K) := by
  obtain ⟨ao', cap', he, h1, h2, h3⟩ := h
  injection he with e1 e2 e3
  subst e1 e2 e3
  refine ⟨.slice (if cap = 0 then ao else ao.map (·.add (0 * 1))) (K - 0) (cap - 0), .slice (if cap = K then ao else ao.map (·.add (K * 1))) (l.length - K) (cap - K), fun P W hu hs => ?_, ?_, ?_⟩
  · have hsz : (sizeOf 5).run P W = .ok 1 W := by
      cases hq : P.info? 5 with
      | none => rw [hq] at hs; cases hs
      | some j => rw [hq] at hs; simp at hs; simp [sizeOf, typeInfo, Sem.run_bind, hq, hs]
    have c1 : (0 : Int) ≤ (K : Int) ∧ (K : Int) ≤ (cap : Int) := by omega
    have c2 : (0 : Int) ≤ (K : Int) ∧ (K : Int) ≤ (l.length : Int) := by omega
    have k1 : K ≤ cap := by omega
    constructor
    · simp [Instr.slice, Sem.run_bind, run_underlying hu W, Instr.sliceBounds, Instr.sliceBound, asIntOf, k1, hsz]
    · simp [Instr.slice, Sem.run_bind, run_underlying hu W, Instr.sliceBounds, Instr.sliceBound, asIntOf, hK, hsz]
  · refine ⟨_, _, by rw [List.length_take, Nat.min_eq_left hK, Nat.sub_zero], by rw [List.length_take]; omega, by omega, fun i b hb => ?_⟩
    have hi := (List.getElem?_eq_some_iff.1 hb).1
    rw [List.length_take] at hi
    rw [List.getElem?_take_of_lt (by omega)] at hb
    obtain ⟨a, rfl, hc⟩ := h3 i b hb
    by_cases e : cap = 0
    · rw [if_pos e]; exact ⟨a, rfl, hc⟩
    · rw [if_neg e]; exact ⟨a.add 0, rfl, by rw [add_zero_]; exact hc⟩
  · refine ⟨_, _, by rw [List.length_drop], by rw [List.length_drop]; omega, by omega, fun i b hb => ?_⟩
    rw [List.getElem?_drop] at hb
    have hi := (List.getElem?_eq_some_iff.1 hb).1
    obtain ⟨a, rfl, hc⟩ := h3 (K + i) b hb
    rw [if_neg (by omega)]
    exact ⟨a.add K, by simp, by rw [add_add_]; exact hc⟩
set_option maxRecDepth 20000 in
set_option maxHeartbeats 8000000 in
theorem SumParts_any {w : World} {v : Value} {l : List (BitVec 8)} (at_ : Int) (hl : Bs w v l) (a0 : 0 ≤ at_) (a1 : at_ < 65536) :
    Calls Try.prog 4 #[v, .int .u16 at_] w fun e w' => e = .returned (.bool true) ∧ Below w.heap.size w w' := by
  have HO := Own.nil w
  have HB := Lib.hid hl
  obtain ⟨ao, cap, rfl, hc1, hc2, _⟩ := hl
  obtain ⟨n, hn⟩ : ∃ n, l.length = n := ⟨_, rfl⟩
  have HB2 := HB.out
  rw [hn] at hc1 HB2 ⊢
  clear HB
  have HB := Lib.hid HB2
  have HN := Lib.hid hn
  clear HB2 hn
  rcases Nat.lt_or_ge 2000 n with hj2 | hj2
  · have hd2 : decide ((2000 : Int) < (n : Int)) = true := decide_eq_true (by omega)
    go_enter Try.func4, Try.ntmps4
    go_wp2_with (first | (go_at_call 8; (with_reducible refine (wakes_any HO).mono ?_); rintro e w2 ⟨rfl, HO1⟩; clear HO; have HO := HO1; clear HO1))
    go_ret
    exact ⟨rfl, HO.below⟩
  have hd2 : decide ((2000 : Int) < (n : Int)) = false := decide_eq_false (by omega)
  have hw0 : IntKind.i64.wrap at_ = at_ := IntWalk.i64_in _ (by omega)
  have hw1 : IntKind.i64.wrap ((n : Int) + 1) = (n : Int) + 1 := IntWalk.i64_in _ (by omega)
  have hq0 : ((n : Int) + 1 == 0) = false := by simp; omega
  obtain ⟨K, hp⟩ : ∃ p : Nat, at_ % ((n : Int) + 1) = (p : Int) := ⟨(at_ % ((n : Int) + 1)).toNat, (Int.toNat_of_nonneg (Int.emod_nonneg _ (by omega))).symm⟩
  have hpl : (K : Int) < (n : Int) + 1 := by rw [← hp]; exact Int.emod_lt_of_pos _ (by omega)
  have hm : at_.tmod ((n : Int) + 1) = (K : Int) := by rw [Int.tmod_eq_emod_of_nonneg a0, hp]
  obtain ⟨v1, v2, hrun, B1, B2⟩ := Bs_cut HB.out K (by omega)
  have hr1 := fun W => (hrun Try.prog W (by kernel_rfl) (by kernel_rfl)).1
  have hr2 := fun W => (hrun Try.prog W (by kernel_rfl) (by kernel_rfl)).2
  have HB1 := Lib.hid B1
  have HB2 := Lib.hid B2
  have hsub : IntKind.i64.wrap ((n : Int) - (K : Int)) = ((n - K : Nat) : Int) := by rw [IntWalk.i64_in _ (by omega)]; omega
  have e1 : Crc.join (Crc.crc (l.take K)) (Crc.crc (l.drop K)) (n - K) = Crc.crc l := by
    have := Crc.crc_join (l.take K) (l.drop K)
    rw [List.take_append_drop, List.length_drop, HN.out] at this
    exact this
  have e2 : Crc.more (Crc.crc (l.take K)) (l.drop K) = Crc.crc l := by
    have := Crc.more_append 0#32 (l.take K) (l.drop K)
    rw [List.take_append_drop] at this
    exact this
  obtain ⟨A, hA⟩ : ∃ A, Crc.crc (l.take K) = A := ⟨_, rfl⟩
  obtain ⟨B, hB⟩ : ∃ B, Crc.crc (l.drop K) = B := ⟨_, rfl⟩
  obtain ⟨C, hC⟩ : ∃ C, Crc.crc l = C := ⟨_, rfl⟩
  rw [hA, hB, hC] at e1
  rw [hA, hC] at e2
  have HA := Lib.hid hA
  have HBB := Lib.hid hB
  have HC := Lib.hid hC
  have E2 := Lib.hid e2
  obtain ⟨m, hm'⟩ : ∃ m, n - K = m := ⟨_, rfl⟩
  rw [hm'] at hsub e1
  have HM := Lib.hid hm'
  have E1' := Lib.hid e1
  have HR1 := Lib.hid hr1
  have HR2 := Lib.hid hr2
  have hml : m ≤ 2000 := by omega
  clear hp hrun B1 B2 hA hB hC e1 e2 hm'
  go_enter Try.func4, Try.ntmps4
  go_wp2_with (first | (go_at_call 8; (with_reducible refine (wakes_any HO).mono ?_); rintro e w2 ⟨rfl, HO1⟩; clear HO; have HO := HO1; clear HO1))
  replace HO := HO.drew
  go_region_with (first | (go_at_call 9; (with_reducible refine (Of_any (HO.bs HB1.out)).mono ?_); rw [HA.out]; rintro e w2 ⟨rfl, rfl⟩) | (go_at_call 9; (with_reducible refine (Of_any (HO.bs HB2.out)).mono ?_); rw [HBB.out]; rintro e w2 ⟨rfl, rfl⟩) | (go_at_call 13; (with_reducible refine (Join_yes A B m (by omega) HO).mono ?_); rw [E1'.out]; rintro e w2 ⟨rfl, HO1⟩; clear HO; have HO := HO1; clear HO1))
  go_wp2_with (fail)
  have hCC : ((C.toNat : Int) == (C.toNat : Int)) = true := by simp
  have Q1 := Lib.hid (show ∀ n, Calls Try.prog 9 #[v1] (_root_.Go.World.drewN _ n) fun e w'' => e = .returned (Crc.vi A) ∧ ∃ m, w'' = _root_.Go.World.drewN _ m from fun n => quiet_eq (by have := Of_any ((HO.drewN n).bs HB1.out); rw [HA.out] at this; exact this))
  have Q2 := Lib.hid (show ∀ n, Calls Try.prog 11 #[Crc.vi A, v2] (_root_.Go.World.drewN _ n) fun e w'' => e = .returned (Crc.vi C) ∧ ∃ m, w'' = _root_.Go.World.drewN _ m from fun n => quiet_eq (by have := More_any A ((HO.drewN n).bs HB2.out); rw [E2.out] at this; exact this))
  have Q3 := Lib.hid (show ∀ n', Calls Try.prog 9 #[.slice ao n cap] (_root_.Go.World.drewN _ n') fun e w'' => e = .returned (Crc.vi C) ∧ ∃ m, w'' = _root_.Go.World.drewN _ m from fun n' => quiet_eq (by have := Of_any ((HO.drewN n').bs HB.out); rw [HC.out] at this; exact this))
  go_quiet ((first | (go_at_call 9; exact Q1.out _) | (go_at_call 11; exact Q2.out _) | (go_at_call 9; exact Q3.out _)))
  go_wp2_with (fail)
  go_ret
  exact ⟨rfl, (HO.drewN _).below⟩
end Go.Proofs.Ytaidfofcijnbeaa

/- The sketch's age: every counter halved. -/
import Derived.Test.YtdjcgfknlhijiaaSc
namespace Go.Proofs.Ytdjcgfknlhijiaa
set_option linter.unusedVariables false
set_option linter.unusedSimpArgs false
set_option linter.unnecessarySimpa false
open Go.RowKit Go.Proofs.YtdjcgfknlhijiaaW.PrintLast
namespace Sk
def hrow (p : Row) : Row := (p.1, p.2.map (· / 2))
def halved (k : Nat) (R : List Row) : List Row := R.mapIdx fun j p => if j < k then hrow p else p
def hlf (m : Nat) (l : List Int) : List Int := l.mapIdx fun j c => if j < m then c / 2 else c
theorem halved_zero (R : List Row) : halved 0 R = R := by
  apply List.ext_getElem?
  intro i
  simp only [halved, List.getElem?_mapIdx, Nat.not_lt_zero, if_false]
  cases R[i]? <;> rfl
theorem halved_length (k : Nat) (R : List Row) : (halved k R).length = R.length := by simp [halved]
theorem halved_all (R : List Row) : halved R.length R = halve R := by
  apply List.ext_getElem?
  intro i
  simp only [halved, halve, hrow, List.getElem?_mapIdx, List.getElem?_map]
  by_cases h : i < R.length
  · simp [h]
  · simp [List.getElem?_eq_none (Nat.le_of_not_lt h)]
theorem halved_at (k : Nat) (R : List Row) : (halved k R)[k]? = R[k]? := by simp [halved]
theorem halved_succ (k : Nat) (R : List Row) {p : Row} (h : R[k]? = some p) : (halved k R).set k (hrow p) = halved (k + 1) R := by
  apply List.ext_getElem?
  intro i
  rw [List.getElem?_set]
  by_cases e : k = i
  · subst e
    have := (List.getElem?_eq_some_iff.1 h).1
    obtain ⟨_, rfl⟩ := List.getElem?_eq_some_iff.1 h
    simp [halved, this]
  · rw [if_neg e]
    simp only [halved, List.getElem?_mapIdx]
    have : i < k ↔ i < k + 1 := by omega
    simp only [this]
theorem hlf_zero (l : List Int) : hlf 0 l = l := by
  apply List.ext_getElem?
  intro i
  simp only [hlf, List.getElem?_mapIdx, Nat.not_lt_zero, if_false]
  cases l[i]? <;> rfl
theorem hlf_length (m : Nat) (l : List Int) : (hlf m l).length = l.length := by simp [hlf]
theorem hlf_all (l : List Int) : hlf l.length l = l.map (· / 2) := by
  apply List.ext_getElem?
  intro i
  simp only [hlf, List.getElem?_mapIdx, List.getElem?_map]
  by_cases h : i < l.length
  · simp [h]
  · simp [List.getElem?_eq_none (Nat.le_of_not_lt h)]
theorem hlf_at {m : Nat} {l : List Int} (h : m < l.length) : (hlf m l)[m]? = some l[m] := by simp [hlf, h]
theorem hlf_succ {m : Nat} {l : List Int} (h : m < l.length) : (hlf m l).set m (l[m] / 2) = hlf (m + 1) l := by
  apply List.ext_getElem?
  intro i
  rw [List.getElem?_set]
  by_cases e : m = i
  · subst e
    simp [hlf, h]
  · rw [if_neg e]
    simp only [hlf, List.getElem?_mapIdx]
    have : i < m ↔ i < m + 1 := by omega
    simp only [this]
end Sk
theorem set_at {α : Type} {l : List α} {k : Nat} {x : α} (h : l[k]? = some x) : l.set k x = l := by
  obtain ⟨hk, rfl⟩ := List.getElem?_eq_some_iff.1 h
  exact List.set_getElem_self hk
theorem SkE_gr {g gr cap : Nat} {af ad : Int} {R : List Row} {L : List Ent} : (SkE g gr cap af ad R ++ L)[1]? = some (gr, RowP 33 1 cap (R.map rowV)) := rfl
set_option maxRecDepth 20000 in
set_option maxHeartbeats 4000000 in
theorem Age_any {w0 w : World} {L : List Ent} {g gr cap : Nat} {af ad B : Int} {R : List Row} {wd : Nat} (HO : Own w0 w (SkE g gr cap af ad R ++ L)) (hS : Sk.Shape wd R) (hB : Sk.Bd B R) (B1 : B ≤ 4611686018427387905) :
    Calls Try.prog 15 #[.pointer (some ⟨g, 0, none⟩)] w fun e w' => e = .returned (.tuple #[]) ∧ Own w0 w' (SkE g gr cap af 0 (Sk.halve R) ++ L) := by
  have hf := hS.few
  have h1 := hS.some_
  have hw1' := hS.w1
  have hw2' := hS.w2
  obtain ⟨n, hn⟩ : ∃ n, R.length = n := ⟨_, rfl⟩
  go_enter Try.func15, Try.ntmps15
  go_wp2_with (first | (refine li_load 0 48 rfl rfl rfl HO rfl rfl (by kernel_rfl) ?_))
  go_loopg [10] n (fun k v wr => ∃ j : Nat, v = .int .i64 (j : Int) ∧ j ≤ n ∧ k = n - j ∧ Own w0 wr (SkE g gr cap af ad (Sk.halved j R) ++ L))
  case atStart => exact ⟨0, by rfl, by omega, by omega, by rw [Sk.halved_zero]; exact HO⟩
  case round =>
    clear HO
    obtain ⟨j, rfl, j1, hk, HO⟩ := hrel
    have hw1 : IntKind.i64.wrap ((j : Int) + 1) = ((j + 1 : Nat) : Int) := by rw [IntWalk.i64_in _ (by omega)]; rfl
    rcases Nat.lt_or_ge j n with hj | hj
    · have hd : decide ((j : Int) < (n : Int)) = true := decide_eq_true (by omega)
      obtain ⟨⟨b, l⟩, hjR⟩ : ∃ p, R[j]? = some p := ⟨_, List.getElem?_eq_getElem (by omega)⟩
      have hjb : (Sk.halved j R)[j]? = some (b, l) := by rw [Sk.halved_at]; exact hjR
      have hmem : (b, l) ∈ R := List.mem_of_getElem? hjR
      have hlw : l.length = wd := hS.all _ hmem
      have hjv : ((Sk.halved j R).map rowV)[j]? = some (.slice (some ⟨b, 0, none⟩) wd wd) := by simp [hjb, rowV, hlw]
      have hb0 : (0 : Int) ≤ (j : Int) := by omega
      go_wp2_with (first | (refine li_loadRow 1 33 rfl rfl (off := j) rfl HO rfl hjv (by kernel_rfl) ?_))
      go_loopg [16] wd (fun k v wr => ∃ m : Nat, v = .int .i64 (m : Int) ∧ m ≤ wd ∧ k = wd - m ∧ Own w0 wr (SkE g gr cap af ad ((Sk.halved j R).set j (b, Sk.hlf m l)) ++ L))
      case atStart => exact ⟨0, by rfl, by omega, by omega, by rw [Sk.hlf_zero, set_at hjb]; exact HO⟩
      case round =>
        clear HO
        obtain ⟨m, rfl, m1, hk2, HO⟩ := hrel
        have hw2 : IntKind.i64.wrap ((m : Int) + 1) = ((m + 1 : Nat) : Int) := by rw [IntWalk.i64_in _ (by omega)]; rfl
        have hkb : ((Sk.halved j R).set j (b, Sk.hlf m l))[j]? = some (b, Sk.hlf m l) := by
          rw [List.getElem?_set_self (by rw [Sk.halved_length]; omega)]
        rcases Nat.lt_or_ge m wd with hm | hm
        · have hd2 : decide ((m : Int) < (wd : Int)) = true := decide_eq_true (by omega)
          have hb1 : (0 : Int) ≤ (m : Int) := by omega
          have hb2 : (m : Int) < (wd : Int) := by omega
          have hml : m < l.length := by omega
          obtain ⟨v, hv⟩ : ∃ v, l[m] = v := ⟨_, rfl⟩
          obtain ⟨v1, v2⟩ := hB _ hmem v (by rw [← hv]; exact List.getElem_mem hml)
          have hget : (cells64 (Sk.hlf m l))[m]? = some (.int .i64 v) := by simp [cells64, Sk.hlf_at hml, hv]
          have hq : IntKind.i64.wrap (v.tdiv 2) = v / 2 := by
            rw [Int.tdiv_eq_ediv_of_nonneg v1]
            exact IntWalk.i64_in _ (by omega)
          have hsucc := Sk.hlf_succ hml
          rw [hv] at hsucc
          go_wp2_with (first | (refine li_loadRow (j + 2) 3 rfl rfl (off := m) rfl HO (SkE_row hkb) hget (by kernel_rfl) ?_) | (refine li_storeRowInt (j + 2) rfl rfl rfl (off := m) rfl HO (SkE_row hkb) rfl (by simp [cells64, Sk.hlf_length]; omega) (by kernel_rfl) ?_; intro w1 HO1; rw [SkE_set hkb, hsucc, List.set_set] at HO1; clear HO; have HO := HO1; clear HO1))
          go_roundg (wd - (m + 1))
          case measure => omega
          case rel => exact ⟨m + 1, rfl, by omega, rfl, HO⟩
        · obtain rfl : m = wd := by omega
          have hd2 : decide ((m : Int) < (m : Int)) = false := by simp
          replace HO : Own w0 wr (SkE g gr cap af ad (Sk.halved (j + 1) R) ++ L) := by
            rw [← Sk.halved_succ j R hjR]
            have e : Sk.hrow (b, l) = (b, Sk.hlf m l) := by unfold Sk.hrow; rw [← hlw, Sk.hlf_all]
            rw [e]; exact HO
          go_wp2_with (fail)
          go_roundg (n - (j + 1))
          case measure => omega
          case rel => exact ⟨j + 1, rfl, by omega, rfl, HO⟩
    · obtain rfl : j = n := by omega
      have hd : decide ((j : Int) < (j : Int)) = false := by simp
      subst hn
      rw [Sk.halved_all] at HO
      go_wp2_with (first | ((with_reducible refine gate_load 48 rfl ?_); first | (refine li_load 0 48 rfl rfl rfl HO rfl rfl (by kernel_rfl) ?_)) | ((with_reducible refine gate_load 33 rfl ?_); first | (refine li_load 0 33 rfl rfl rfl HO rfl rfl (by kernel_rfl) ?_)) | ((with_reducible refine gate_load 3 rfl ?_); first | (refine li_load 0 3 rfl rfl rfl HO rfl rfl (by kernel_rfl) ?_)) | ((with_reducible refine gate_store 3 rfl ?_); first | (refine li_storeInt 0 3 rfl rfl rfl rfl HO rfl rfl (by simp) (by kernel_rfl) ?_; clear HO; intro ws HO; (try simp only [List.set_cons_zero, List.set_cons_succ] at HO))) | ((with_reducible refine gate_store 2 rfl ?_); first | (refine li_storeInt 0 2 rfl rfl rfl rfl HO rfl rfl (by simp) (by kernel_rfl) ?_; clear HO; intro ws HO; (try simp only [List.set_cons_zero, List.set_cons_succ] at HO))))
      go_end0
      exact ⟨rfl, by simpa [SkE, Sk.halve] using HO⟩
end Go.Proofs.Ytdjcgfknlhijiaa

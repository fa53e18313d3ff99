/- The document's examples (awake): a key's counter in every row, and what is done to it. -/
import Derived.Test.YtdjcgfknlhijiaaSh
namespace Go.Proofs.Ytdjcgfknlhijiaa
set_option linter.unusedVariables false
set_option linter.unusedSimpArgs false
set_option linter.unnecessarySimpa false
open Go.RowKit Go.Proofs.YtdjcgfknlhijiaaW.PrintLast
namespace Sk
/-- Every row counts so many of the key. -/
def At (key c : Int) (R : List Row) : Prop := ∀ (j : Nat) (p : Row), R[j]? = some p → val key j p = c
theorem val_bump {key : Int} {j wd : Nat} {p : Row} (h : p.2.length = wd) (h1 : 1 ≤ wd) : val key j (bump key j p) = val key j p + 1 := by
  have hl := ixn_lt key j p.2.length (by omega)
  unfold val bump
  simp only [List.length_set]
  simp only [List.getD_eq_getElem?_getD]
  rw [List.getElem?_set_self hl]
  rfl
theorem val_hrow (key : Int) (j : Nat) (p : Row) : val key j (hrow p) = val key j p / 2 := by
  unfold val hrow
  simp only [List.length_map, List.getD_eq_getElem?_getD, List.getElem?_map]
  cases p.2[ixn key j p.2.length]? <;> simp
theorem at_zero {wd : Nat} {R : List Row} (h : Zero wd R) (key : Int) : At key 0 R := by
  intro j p hp
  unfold val
  rw [h p (List.mem_of_getElem? hp)]
  simp only [zeros, List.getD_eq_getElem?_getD, List.getElem?_replicate]
  split <;> rfl
theorem at_bumped {key c : Int} {wd : Nat} {R : List Row} (hS : Shape wd R) (h : At key c R) : At key (c + 1) (bumped key R.length R) := by
  intro j p hp
  rw [bumped_all, List.getElem?_mapIdx] at hp
  cases hq : R[j]? with
  | none => rw [hq] at hp; cases hp
  | some q =>
    rw [hq] at hp
    simp only [Option.map_some, Option.some.injEq] at hp
    rw [← hp, val_bump (hS.all _ (List.mem_of_getElem? hq)) hS.w1, h j q hq]
theorem at_halve {key c : Int} {R : List Row} (h : At key c R) : At key (c / 2) (halve R) := by
  intro j p hp
  have hp' : (R[j]?).map hrow = some p := by rw [← hp, halve, List.getElem?_map]; rfl
  cases hq : R[j]? with
  | none => rw [hq] at hp'; cases hp'
  | some q =>
    rw [hq] at hp'
    simp only [Option.map_some, Option.some.injEq] at hp'
    rw [← hp', val_hrow, h j q hq]
theorem count_at {key c : Int} {wd : Nat} {R : List Row} (hS : Shape wd R) (h : At key c R) : count key R = c := by
  have h1 := hS.some_
  have : ∀ k, k ≤ R.length → leastTo key R k = c := by
    intro k
    induction k with
    | zero =>
      intro _
      obtain ⟨p, hp⟩ : ∃ p, R[0]? = some p := ⟨_, List.getElem?_eq_getElem (by omega)⟩
      rw [least_zero hp, h 0 p hp]
    | succ k ih =>
      intro hk
      obtain ⟨p, hp⟩ : ∃ p, R[k]? = some p := ⟨_, List.getElem?_eq_getElem (by omega)⟩
      rw [least_succ hp, ih (by omega), h k p hp]
      omega
  exact this _ (Nat.le_refl _)
theorem zero_shape {wd : Nat} {R : List Row} (h : Zero wd R) (h1 : 1 ≤ R.length) (h2 : R.length ≤ 8) (w1 : 1 ≤ wd) (w2 : wd ≤ 65536) : Shape wd R :=
  ⟨h1, h2, w1, w2, fun p hp => by rw [h p hp]; simp [zeros]⟩
theorem zero_bd {wd : Nat} {R : List Row} (h : Zero wd R) : Bd 0 R := by
  intro p hp c hc
  rw [h p hp] at hc
  simp only [zeros, List.mem_replicate] at hc
  omega
theorem added_under {af ad key : Int} {R : List Row} (h : ad + 1 < af) : added af ad key R = bumped key R.length R := by unfold added; rw [if_pos h]
theorem adds_under {af ad : Int} (h : ad + 1 < af) : adds af ad = ad + 1 := by unfold adds; rw [if_pos h]
end Sk
/-- Adding, while it is no time to halve. -/
theorem Add_under {w0 w : World} {L : List Ent} {g gr cap : Nat} {af ad B : Int} {R : List Row} {wd : Nat} (key : Int) (HO : Own w0 w (SkE g gr cap af ad R ++ L)) (k1 : 0 ≤ key) (k2 : key < 18446744073709551616) (hS : Sk.Shape wd R) (hB : Sk.Bd B R) (B1 : B ≤ 4611686018427387904) (a1 : 0 ≤ ad) (a2 : ad ≤ 4611686018427387904) (B0 : 0 ≤ B) (hlt : ad + 1 < af) :
    Calls Try.prog 13 #[.pointer (some ⟨g, 0, none⟩), .int .u64 key] w fun e w' => e = .returned (.tuple #[]) ∧ Own w0 w' (SkE g gr cap af (ad + 1) (Sk.bumped key R.length R) ++ L) := by
  have h := Add_any key HO k1 k2 hS hB B1 a1 a2 B0
  rw [Sk.adds_under hlt, Sk.added_under hlt] at h
  exact h
set_option maxRecDepth 20000 in
set_option maxHeartbeats 4000000 in
theorem awake_any {w0 w : World} {L : List Ent} (HO : Own w0 w L) : Calls Try.prog 9 #[] w fun e w' => e = .returned (.bool true) ∧ Own w0 w' L := by
  go_enter Try.func9, Try.ntmps9
  go_wp2_with (first | (go_at_call 11; refine (SNew_yes 2 16 100 HO (by decide) (by decide) (by decide) (by decide) (by decide) (by decide)).mono ?_; rintro e w1 ⟨g, gr, cap, R, rfl, HO1, hR, hz⟩; clear HO; have HO := HO1; clear HO1))
  go_loopg [13] 5 (fun k v wr => ∃ (j : Nat) (R : List Row), v = .int .i64 (j : Int) ∧ j ≤ 5 ∧ k = 5 - j ∧ Sk.Shape 16 R ∧ Sk.Bd j R ∧ Sk.At 7 j R ∧ Own w0 wr (SkE g gr cap 100 j R ++ L))
  case atStart => exact ⟨0, R, by rfl, by omega, by omega, Sk.zero_shape hz (by omega) (by omega) (by decide) (by decide), Sk.zero_bd hz, Sk.at_zero hz 7, HO⟩
  case round =>
    clear HO hz hR
    obtain ⟨j, R, rfl, j1, hk, hS, hB, hA, HO⟩ := hrel
    have hw1 : IntKind.i64.wrap ((j : Int) + 1) = ((j + 1 : Nat) : Int) := by rw [IntWalk.i64_in _ (by omega)]; rfl
    rcases Nat.lt_or_ge j 5 with hj | hj
    · have hd : decide ((j : Int) < 5) = true := decide_eq_true (by omega)
      go_wp2_with (first | (go_at_call 13; refine (Add_under 7 HO (by decide) (by decide) hS hB (by omega) (by omega) (by omega) (by omega) (by omega)).mono ?_; rintro e w2 ⟨rfl, HO1⟩; clear HO; have HO := HO1; clear HO1))
      go_roundg (5 - (j + 1))
      case measure => omega
      case rel => exact ⟨j + 1, _, rfl, by omega, rfl, Sk.bumped_shape hS, Sk.bumped_bd hB (by omega), Sk.at_bumped hS hA, HO⟩
    · obtain rfl : j = 5 := by omega
      have hd : decide (((5 : Nat) : Int) < 5) = false := by decide
      have hA1 := Sk.at_halve hA
      have hS1 := Sk.halve_shape hS
      have hB1 := Sk.halve_bd hB
      have hc := Sk.count_at (Sk.bumped_shape (key := 7) (k := (Sk.halve R).length) hS1) (Sk.at_bumped hS1 hA1)
      have hS2 := Sk.bumped_shape (key := 7) (k := (Sk.halve R).length) hS1
      obtain ⟨c, hcc⟩ : ∃ c, Sk.count 7 (Sk.bumped 7 (Sk.halve R).length (Sk.halve R)) = c := ⟨_, rfl⟩
      rw [hcc] at hc
      have hc3 : c = 3 := by rw [hc]; decide
      subst hc3
      clear hA hA1
      go_wp2_with (fail)
      go_at_call 15; refine (Age_any HO hS hB (by omega)).mono ?_; rintro e w2 ⟨rfl, HO1⟩; clear HO; have HO := HO1; clear HO1
      go_wp2_with (fail)
      go_at_call 13; refine (Add_under 7 HO (by decide) (by decide) hS1 hB1 (by omega) (by omega) (by omega) (by omega) (by omega)).mono ?_; rintro e w2 ⟨rfl, HO1⟩; clear HO; have HO := HO1; clear HO1
      go_wp2_with (fail)
      go_at_call 17; refine (Count_any 7 HO (by decide) (by decide) hS2).mono ?_; rw [hcc]; rintro e w2 ⟨rfl, rfl⟩
      go_wp2_with (fail)
      go_at_call 19; refine (Adds_any HO).mono ?_; rintro e w2 ⟨rfl, rfl⟩
      go_wp2_with (fail)
      go_at_call 20; refine (Hash_zero _).mono ?_; rintro e w2 ⟨rfl, rfl⟩
      go_wp2_with (fail)
      go_ret
      exact ⟨rfl, HO.sub (List.sublist_append_right _ _)⟩
end Go.Proofs.Ytdjcgfknlhijiaa

/- The document's list: Same, IsKept, Bytes, Has, Add. -/
import Derived.Test.YtkkgajlddlnghaaMb
namespace Go.Proofs.Ytkkgajlddlnghaa
set_option linter.unusedVariables false
set_option linter.unusedSimpArgs false
set_option linter.unnecessarySimpa false
open Go.RowKit Go.Proofs.YtkkgajlddlnghaaW.PrintLast Lr
namespace Lr
/-- What the document's list owns. -/
def Rw (w0 w : World) (L : List Ent) (m : Nat) (s : S) : Prop :=
  ∃ vt vk Et Ek, RS vt s.trial Et ∧ RS vk s.kept Ek ∧ Own w0 w ((m, CellsP 32 [.int .i64 s.most, vt, vk]) :: (Et ++ (Ek ++ L)))
/-- A slice that reads as these whole numbers, laid from its block's beginning. -/
def Ri (w : World) (v : Value) (l : List Int) : Prop :=
  ∃ ao c, v = .slice ao l.length c ∧ l.length ≤ c ∧ c ≤ maxLen ∧ (∀ (i : Nat) (x : Int), l[i]? = some x → ∃ g, ao = some ⟨g, 0, none⟩ ∧ w.cell? ⟨g, i, none⟩ = some (.int .i64 x))
theorem IsP.ri {w0 w : World} {L E : List Ent} {v : Value} {l : List Int} (h : IsP v l E) (HO : Own w0 w L) (hm : ∀ x ∈ E, x ∈ L) : Ri w v l := by
  cases h with
  | nil hv => exact ⟨none, 0, hv, by simp, by simp [maxLen], by simp⟩
  | row _ g c hv =>
    have hmem := hm _ (List.mem_singleton.2 rfl)
    obtain ⟨i, hi⟩ := List.getElem?_of_mem hmem
    obtain ⟨o, ho, cur, rfl, hp, hc, hmx⟩ := HO.at_i i hi
    have h1 := hp.length_le
    have h2 : cur.toList.length = cur.size := by simp
    rw [List.length_map, h2, hc] at h1
    refine ⟨_, c, hv, by omega, hmx, fun j x hj => ⟨g, rfl, ?_⟩⟩
    exact HO.rowCell i hi j (by rw [List.getElem?_map, hj]; rfl)
theorem idxI_ge (l : List KV) (k : Int) : decide (0 ≤ idxI l k) = (idx l k).isSome := by
  unfold idxI
  cases idx l k with
  | none => rfl
  | some i => simp
end Lr
set_option maxRecDepth 20000 in
set_option maxHeartbeats 4000000 in
theorem Same_eq {w : World} {v v' : Value} {l : List Int} (h : Ri w v l) (h' : Ri w v' l) (hl : l.length ≤ 1000000) :
    Calls Try.prog 14 #[v, v'] w fun e w' => e = .returned (.bool true) ∧ ∃ n, w' = w.drewN n := by
  obtain ⟨ao, c, rfl, _, _, hc⟩ := h
  obtain ⟨ao', c', rfl, _, _, hc'⟩ := h'
  obtain ⟨N, hN⟩ : ∃ N, l.length = N := ⟨_, rfl⟩
  have HN := Lib.hid hN
  have HC := Lib.hid hc
  have HC' := Lib.hid hc'
  rw [hN] at hl ⊢
  clear hc hc' hN
  go_enter Try.func14, Try.ntmps14
  go_wp2_with (fail)
  go_loopg [5] N (fun q x wr => ∃ i n : Nat, x = .int .i64 (i : Int) ∧ i ≤ N ∧ q = N - i ∧ wr = w.drewN n)
  case atStart => exact ⟨0, 0, by rfl, by omega, by omega, rfl⟩
  case round =>
    obtain ⟨i, n, rfl, i1, hq, rfl⟩ := hrel
    rcases Nat.lt_or_ge i N with hi | hi
    · have hd : decide ((i : Int) < (N : Int)) = true := decide_eq_true (by omega)
      have hw1 : IntKind.i64.wrap ((i : Int) + 1) = ((i + 1 : Nat) : Int) := by rw [IntWalk.i64_in _ (by omega)]; rfl
      have hb0 : (0 : Int) ≤ (i : Int) := by omega
      have hb1 : (i : Int) < (N : Int) := by omega
      obtain ⟨x, hx⟩ : ∃ x, l[i]? = some x := ⟨_, List.getElem?_eq_getElem (by rw [HN.out]; exact hi)⟩
      obtain ⟨g, rfl, c0⟩ := HC.out i x hx
      obtain ⟨g', rfl, c0'⟩ := HC'.out i x hx
      have hne : (x != x) = false := by simp
      clear hx
      go_upto_region 6 with (fail)
      go_quiet (fail)
      go_wp2_with (fail)
      go_roundg (N - (i + 1))
      case measure => omega
      case rel => exact ⟨i + 1, _, rfl, by omega, rfl, rfl⟩
    · have hd : decide ((i : Int) < (N : Int)) = false := decide_eq_false (by omega)
      go_wp2_with (fail)
      go_ret
      exact ⟨rfl, _, rfl⟩
set_option maxRecDepth 20000 in
theorem RIsKept_any {w0 w : World} {L : List Ent} {m : Nat} {s : S} (k : Int) (HR : Rw w0 w L m s) (hl : s.kept.length ≤ 1000000) :
    Calls Try.prog 22 #[.pointer (some ⟨m, 0, none⟩), .int .i64 k] w fun e w' => e = .returned (.bool (isKept s k)) ∧ w = w' := by
  obtain ⟨vt, vk, Et, Ek, hT, hK, HO⟩ := HR
  have F := Lib.hid (find_any k (hK.rd HO (fun x hx => by simp [hx])) hl)
  have hi := Lib.hid (idxI_ge s.kept k)
  clear hT hK
  go_enter Try.func22, Try.ntmps22
  go_wp2_with (first | (refine li_load 0 30 rfl rfl rfl HO rfl rfl (by kernel_rfl) ?_) | (go_at_call 32; refine F.out.mono ?_; rintro e w2 ⟨rfl, rfl⟩))
  go_ret
  exact ⟨by unfold isKept; rw [← hi.out]; rfl, rfl⟩
set_option maxRecDepth 20000 in
set_option maxHeartbeats 4000000 in
theorem RBytes_any {w0 w : World} {L : List Ent} {m c : Nat} {s : S} (HR : Rw w0 w L m s) (K : Ok s c) (hc : c ≤ 100000) :
    Calls Try.prog 18 #[.pointer (some ⟨m, 0, none⟩)] w fun e w' => e = .returned (.tuple #[.int .i64 (sum s.trial + sum s.kept), .int .i64 (sum s.kept)]) ∧ Rw w0 w' L m s := by
  obtain ⟨vt, vk, Et, Ek, hT, hK, HO⟩ := HR
  have hlen : s.trial.length + s.kept.length ≤ 100000 := by have := K.len; unfold all at this; simp at this; omega
  have bt : ∀ x ∈ s.trial, 1 ≤ x.2 ∧ x.2 ≤ 1099511627776 := fun x hx => K.by_ x (all_mem.2 (.inl hx))
  have bk : ∀ x ∈ s.kept, 1 ≤ x.2 ∧ x.2 ≤ 1099511627776 := fun x hx => K.by_ x (all_mem.2 (.inr hx))
  have b1 := sum_bounds s.trial bt
  have b2 := sum_bounds s.kept bk
  have FT := Lib.hid (fun w' (H : Own w0 w' ((m, CellsP 32 [.int .i64 s.most, vt, vk]) :: (Et ++ (Ek ++ L)))) => sum_any (hT.rd H (fun x hx => by simp [hx])) (by omega) bt)
  have FK := Lib.hid (fun w' (H : Own w0 w' ((m, CellsP 32 [.int .i64 s.most, vt, vk]) :: (Et ++ (Ek ++ L)))) => sum_any (hK.rd H (fun x hx => by simp [hx])) (by omega) bk)
  have HT := Lib.hid hT
  have HK := Lib.hid hK
  obtain ⟨A, hA⟩ : ∃ A, sum s.trial = A := ⟨_, rfl⟩
  obtain ⟨B, hB⟩ : ∃ B, sum s.kept = B := ⟨_, rfl⟩
  rw [hA] at b1 FT ⊢
  rw [hB] at b2 FK ⊢
  have hw : IntKind.i64.wrap (A + B) = A + B := IntWalk.i64_in _ (by omega)
  clear hT hK bt bk hA hB K
  go_enter Try.func18, Try.ntmps18
  go_upto_region 1 with (fail)
  refine start_ (n := 18) (S := fun w' => w'.cell? ⟨m, 1, none⟩ = some (vt) ∧ w'.cell? ⟨m, 2, none⟩ = some (vk)) (ds := []) #[false, false, false, false, false, false, false, false, false, false, false, false, false, false, false, false, false, false] (by kernel_rfl) rfl rfl ⟨(by first | exact HO.drew.cell 0 rfl _ rfl | exact HO.drew.cell 1 rfl _ rfl | exact HO.drew.cell 2 rfl _ rfl | exact HO.drew.cell 3 rfl _ rfl | exact HO.drew.cell 4 rfl _ rfl), (by first | exact HO.drew.cell 0 rfl _ rfl | exact HO.drew.cell 1 rfl _ rfl | exact HO.drew.cell 2 rfl _ rfl | exact HO.drew.cell 3 rfl _ rfl | exact HO.drew.cell 4 rfl _ rfl)⟩ (fun hHeld => ?_)
  replace HO := HO.drew
  refine pure_ (i := 0) (N := some 4) (v := ?_) (a' := ?_) #[true, false, false, false, false, false, false, false, false, false, false, false, false, false, false, false, false, false] rfl rfl (by kernel_rfl) (fun _ _ _ h => h) (Or.inl ⟨by rfl, ?_⟩) ?_ ?_
  rotate_left
  · intro w'
    go_simp
    with_reducible rfl
  rotate_left
  · simp only [Act.put, List.setIfInBounds_toArray, List.set_cons_zero, List.set_cons_succ, i64_w, i32_w]
    rfl
  refine pure_ (i := 1) (N := some 5) (v := ?_) (a' := ?_) #[true, true, false, false, false, false, false, false, false, false, false, false, false, false, false, false, false, false] rfl rfl (by kernel_rfl) (fun _ _ _ h => h) (Or.inl ⟨by rfl, ?_⟩) ?_ ?_
  rotate_left
  · intro w'
    go_simp
    with_reducible rfl
  rotate_left
  · simp only [Act.put, List.setIfInBounds_toArray, List.set_cons_zero, List.set_cons_succ, i64_w, i32_w]
    rfl
  refine pure_ (i := 2) (N := some 6) (v := ?_) (a' := ?_) #[true, true, true, false, false, false, false, false, false, false, false, false, false, false, false, false, false, false] rfl rfl (by kernel_rfl) (fun _ _ _ h => h) (Or.inl ⟨by rfl, ?_⟩) ?_ ?_
  rotate_left
  · intro w'
    go_simp
    with_reducible rfl
  rotate_left
  · simp only [Act.put, List.setIfInBounds_toArray, List.set_cons_zero, List.set_cons_succ, i64_w, i32_w]
    rfl
  refine pure_ (i := 5) (N := some 9) (v := ?_) (a' := ?_) #[true, true, true, false, false, true, false, false, false, false, false, false, false, false, false, false, false, false] rfl rfl (by kernel_rfl) (fun _ _ _ h => h) (Or.inl ⟨by rfl, ?_⟩) ?_ ?_
  rotate_left
  · intro w'
    go_simp
    with_reducible rfl
  rotate_left
  · simp only [Act.put, List.setIfInBounds_toArray, List.set_cons_zero, List.set_cons_succ, i64_w, i32_w]
    rfl
  refine pure_ (i := 6) (N := some 10) (v := ?_) (a' := ?_) #[true, true, true, false, false, true, true, false, false, false, false, false, false, false, false, false, false, false] rfl rfl (by kernel_rfl) (fun _ _ _ h => h) (Or.inl ⟨by rfl, ?_⟩) ?_ ?_
  rotate_left
  · intro w'
    go_simp
    with_reducible rfl
  rotate_left
  · simp only [Act.put, List.setIfInBounds_toArray, List.set_cons_zero, List.set_cons_succ, i64_w, i32_w]
    rfl
  refine pure_ (i := 7) (N := some 11) (v := ?_) (a' := ?_) #[true, true, true, false, false, true, true, true, false, false, false, false, false, false, false, false, false, false] rfl rfl (by kernel_rfl) (fun _ _ _ h => h) (Or.inl ⟨by rfl, ?_⟩) ?_ ?_
  rotate_left
  · intro w'
    go_simp
    with_reducible rfl
  rotate_left
  · simp only [Act.put, List.setIfInBounds_toArray, List.set_cons_zero, List.set_cons_succ, i64_w, i32_w]
    rfl
  refine pure_ (i := 11) (N := some 15) (v := ?_) (a' := ?_) #[true, true, true, false, false, true, true, true, false, false, false, true, false, false, false, false, false, false] rfl rfl (by kernel_rfl) (fun _ _ _ h => h) (Or.inl ⟨by rfl, ?_⟩) ?_ ?_
  rotate_left
  · intro w'
    go_simp
    with_reducible rfl
  rotate_left
  · simp only [Act.put, List.setIfInBounds_toArray, List.set_cons_zero, List.set_cons_succ, i64_w, i32_w]
    rfl
  refine pure_ (i := 12) (N := some 16) (v := ?_) (a' := ?_) #[true, true, true, false, false, true, true, true, false, false, false, true, true, false, false, false, false, false] rfl rfl (by kernel_rfl) (fun _ _ _ h => h) (Or.inl ⟨by rfl, ?_⟩) ?_ ?_
  rotate_left
  · intro w'
    go_simp
    with_reducible rfl
  rotate_left
  · simp only [Act.put, List.setIfInBounds_toArray, List.set_cons_zero, List.set_cons_succ, i64_w, i32_w]
    rfl
  refine pure_ (i := 13) (N := some 17) (v := ?_) (a' := ?_) #[true, true, true, false, false, true, true, true, false, false, false, true, true, true, false, false, false, false] rfl rfl (by kernel_rfl) (fun _ _ _ h => h) (Or.inl ⟨by rfl, ?_⟩) ?_ ?_
  rotate_left
  · intro w'
    go_simp
    with_reducible rfl
  rotate_left
  · simp only [Act.put, List.setIfInBounds_toArray, List.set_cons_zero, List.set_cons_succ, i64_w, i32_w]
    rfl
  refine take_ (i := 3) (N := some 7) (v := ?_) (a' := ?_) #[true, true, true, true, false, true, true, true, false, false, false, true, true, true, false, false, false, false] rfl rfl (by kernel_rfl) (fun _ _ _ h => h) (Or.inl ⟨by rfl, ?_⟩) hHeld ?_ ?_
  rotate_left
  · rintro w' ⟨s0, s1⟩
    go_simp
    with_reducible rfl
  rotate_left
  · simp only [Act.put, List.setIfInBounds_toArray, List.set_cons_zero, List.set_cons_succ, i64_w, i32_w]
    rfl
  refine take_ (i := 8) (N := some 12) (v := ?_) (a' := ?_) #[true, true, true, true, false, true, true, true, true, false, false, true, true, true, false, false, false, false] rfl rfl (by kernel_rfl) (fun _ _ _ h => h) (Or.inl ⟨by rfl, ?_⟩) hHeld ?_ ?_
  rotate_left
  · rintro w' ⟨s0, s1⟩
    go_simp
    with_reducible rfl
  rotate_left
  · simp only [Act.put, List.setIfInBounds_toArray, List.set_cons_zero, List.set_cons_succ, i64_w, i32_w]
    rfl
  refine take_ (i := 14) (N := some 18) (v := ?_) (a' := ?_) #[true, true, true, true, false, true, true, true, true, false, false, true, true, true, true, false, false, false] rfl rfl (by kernel_rfl) (fun _ _ _ h => h) (Or.inl ⟨by rfl, ?_⟩) hHeld ?_ ?_
  rotate_left
  · rintro w' ⟨s0, s1⟩
    go_simp
    with_reducible rfl
  rotate_left
  · simp only [Act.put, List.setIfInBounds_toArray, List.set_cons_zero, List.set_cons_succ, i64_w, i32_w]
    rfl
  refine one_ (i := 4) (N := some 8) #[true, true, true, true, true, true, true, true, true, false, false, true, true, true, true, false, false, false] rfl rfl (by kernel_rfl) (by decide) (fun K hK => ?_)
  refine goes_ Try.func31 (by kernel_rfl) rfl #[vt] (by rfl) rfl rfl (by simp only [List.map_toArray, List.map_cons, List.map_nil]; rfl) ?_
  with_reducible refine (FT.out _ HO).mono ?_
  rintro e w1 ⟨rfl, rfl⟩
  refine ⟨_, rfl, ?_⟩
  refine hK.out _ _ ⟨(by first | exact HO.cell 0 rfl _ rfl | exact HO.cell 1 rfl _ rfl | exact HO.cell 2 rfl _ rfl | exact HO.cell 3 rfl _ rfl | exact HO.cell 4 rfl _ rfl), (by first | exact HO.cell 0 rfl _ rfl | exact HO.cell 1 rfl _ rfl | exact HO.cell 2 rfl _ rfl | exact HO.cell 3 rfl _ rfl | exact HO.cell 4 rfl _ rfl)⟩ (fun hHeld => ?_)
  clear hK K
  refine norm_ (a' := ?_) ?_ ?_
  rotate_left
  · show Act.put _ (some 8) _ = _
    simp only [Act.put, List.setIfInBounds_toArray, List.set_cons_zero, List.set_cons_succ, i64_w, i32_w]
    rfl
  refine one_ (i := 9) (N := some 13) #[true, true, true, true, true, true, true, true, true, true, false, true, true, true, true, false, false, false] rfl rfl (by kernel_rfl) (by decide) (fun K hK => ?_)
  refine goes_ Try.func31 (by kernel_rfl) rfl #[vk] (by rfl) rfl rfl (by simp only [List.map_toArray, List.map_cons, List.map_nil]; rfl) ?_
  with_reducible refine (FK.out _ HO).mono ?_
  rintro e w1 ⟨rfl, rfl⟩
  refine ⟨_, rfl, ?_⟩
  refine hK.out _ _ ⟨(by first | exact HO.cell 0 rfl _ rfl | exact HO.cell 1 rfl _ rfl | exact HO.cell 2 rfl _ rfl | exact HO.cell 3 rfl _ rfl | exact HO.cell 4 rfl _ rfl), (by first | exact HO.cell 0 rfl _ rfl | exact HO.cell 1 rfl _ rfl | exact HO.cell 2 rfl _ rfl | exact HO.cell 3 rfl _ rfl | exact HO.cell 4 rfl _ rfl)⟩ (fun hHeld => ?_)
  clear hK K
  refine norm_ (a' := ?_) ?_ ?_
  rotate_left
  · show Act.put _ (some 13) _ = _
    simp only [Act.put, List.setIfInBounds_toArray, List.set_cons_zero, List.set_cons_succ, i64_w, i32_w]
    rfl
  refine pure_ (i := 10) (N := some 14) (v := ?_) (a' := ?_) #[true, true, true, true, true, true, true, true, true, true, true, true, true, true, true, false, false, false] rfl rfl (by kernel_rfl) (fun _ _ _ h => h) (Or.inl ⟨by rfl, ?_⟩) ?_ ?_
  rotate_left
  · intro w'
    go_simp
    with_reducible rfl
  rotate_left
  · simp only [Act.put, List.setIfInBounds_toArray, List.set_cons_zero, List.set_cons_succ, i64_w, i32_w]
    rfl
  refine one_ (i := 15) (N := some 19) #[true, true, true, true, true, true, true, true, true, true, true, true, true, true, true, true, false, false] rfl rfl (by kernel_rfl) (by decide) (fun K hK => ?_)
  refine goes_ Try.func31 (by kernel_rfl) rfl #[vk] (by rfl) rfl rfl (by simp only [List.map_toArray, List.map_cons, List.map_nil]; rfl) ?_
  with_reducible refine (FK.out _ HO).mono ?_
  rintro e w1 ⟨rfl, rfl⟩
  refine ⟨_, rfl, ?_⟩
  refine hK.out _ _ ⟨(by first | exact HO.cell 0 rfl _ rfl | exact HO.cell 1 rfl _ rfl | exact HO.cell 2 rfl _ rfl | exact HO.cell 3 rfl _ rfl | exact HO.cell 4 rfl _ rfl), (by first | exact HO.cell 0 rfl _ rfl | exact HO.cell 1 rfl _ rfl | exact HO.cell 2 rfl _ rfl | exact HO.cell 3 rfl _ rfl | exact HO.cell 4 rfl _ rfl)⟩ (fun hHeld => ?_)
  clear hK K
  refine norm_ (a' := ?_) ?_ ?_
  rotate_left
  · show Act.put _ (some 19) _ = _
    simp only [Act.put, List.setIfInBounds_toArray, List.set_cons_zero, List.set_cons_succ, i64_w, i32_w]
    rfl
  refine pure_ (i := 16) (N := some 2) (v := ?_) (a' := ?_) #[true, true, true, true, true, true, true, true, true, true, true, true, true, true, true, true, true, false] rfl rfl (by kernel_rfl) (fun _ _ _ h => h) (Or.inl ⟨by rfl, ?_⟩) ?_ ?_
  rotate_left
  · intro w'
    go_simp
    with_reducible rfl
  rotate_left
  · simp only [Act.put, List.setIfInBounds_toArray, List.set_cons_zero, List.set_cons_succ, i64_w, i32_w]
    rfl
  refine pure_ (i := 17) (N := some 3) (v := ?_) (a' := ?_) #[true, true, true, true, true, true, true, true, true, true, true, true, true, true, true, true, true, true] rfl rfl (by kernel_rfl) (fun _ _ _ h => h) (Or.inl ⟨by rfl, ?_⟩) ?_ ?_
  rotate_left
  · intro w'
    go_simp
    with_reducible rfl
  rotate_left
  · simp only [Act.put, List.setIfInBounds_toArray, List.set_cons_zero, List.set_cons_succ, i64_w, i32_w]
    rfl
  refine done_ (by kernel_rfl) ?_
  go_wp2_with (fail)
  go_ret2
  exact ⟨rfl, vt, vk, Et, Ek, HT.out, HK.out, HO⟩
set_option maxRecDepth 20000 in
set_option maxHeartbeats 4000000 in
theorem RHas_any {w0 w : World} {L : List Ent} {m : Nat} {s : S} (k : Int) (HR : Rw w0 w L m s) (hc : (all s).length ≤ 100000) :
    Calls Try.prog 20 #[.pointer (some ⟨m, 0, none⟩), .int .i64 k] w fun e w' => e = .returned (.tuple #[.int .i64 ((has s k).getD 0), .bool (isIn s k)]) ∧ Rw w0 w' L m s := by
  obtain ⟨vt, vk, Et, Ek, hT, hK, HO⟩ := HR
  have hlen : s.trial.length + s.kept.length ≤ 100000 := by unfold all at hc; simp at hc; omega
  have hmx : maxLen = 9223372036854775807 := rfl
  obtain ⟨aoT, cT, hvT, _, _, _⟩ := hT.rd HO (fun x hx => by simp [hx])
  obtain ⟨aoK, cK, hvK, _, _, _⟩ := hK.rd HO (fun x hx => by simp [hx])
  have HT := Lib.hid hT
  have HK := Lib.hid hK
  have NT := Lib.hid (show ∀ w' A, Own w0 w' (A ++ ((m, CellsP 32 [.int .i64 s.most, vt, vk]) :: (Et ++ (Ek ++ L)))) → ∀ j u, (s.trial.flatMap c2)[j]? = some u → ∃ ad, aoT = some ad ∧ w'.cell? (ad.add j) = some u from fun w' A H => hT.news hvT H (fun x hx => by simp [hx]))
  have NK := Lib.hid (show ∀ w' A, Own w0 w' (A ++ ((m, CellsP 32 [.int .i64 s.most, vt, vk]) :: (Et ++ (Ek ++ L)))) → ∀ j u, (s.kept.flatMap c2)[j]? = some u → ∃ ad, aoK = some ad ∧ w'.cell? (ad.add j) = some u from fun w' A H => hK.news hvK H (fun x hx => by simp [hx]))
  obtain ⟨A, hA⟩ : ∃ A, s.trial.length = A := ⟨_, rfl⟩
  obtain ⟨B, hB⟩ : ∃ B, s.kept.length = B := ⟨_, rfl⟩
  rw [hA] at hvT hlen
  rw [hB] at hvK hlen
  subst hvT hvK
  have LA := Lib.hid (show (s.trial.flatMap c2).length = A * 2 by rw [flat2_len, hA])
  have LB := Lib.hid (show (s.kept.flatMap c2).length = B * 2 by rw [flat2_len, hB])
  have H1 := Lib.hid (show 0 + A ≤ maxLen by omega)
  have H2 := Lib.hid (show (0 + A) * 16 ≤ 140737488355328 by omega)
  have H3 := Lib.hid (show 0 + A + B ≤ maxLen by omega)
  have H4 := Lib.hid (show (0 + A + B) * 16 ≤ 140737488355328 by omega)
  have L0 := Lib.hid (show ([] ++ s.trial.flatMap c2).length = (0 + A) * 2 by rw [List.nil_append, flat2_len, hA]; omega)
  have HLall := Lib.hid (show (all s).length = A + B by unfold all; rw [List.length_append, hA, hB])
  have HL3 := Lib.hid hlen
  clear hT hK hA hB hlen hc hmx
  go_enter Try.func20, Try.ntmps20
  go_upto_region 1 with (fail)
  refine start_ (n := 12) (S := fun w' => w'.cell? ⟨m, 1, none⟩ = some (.slice aoT A cT) ∧ w'.cell? ⟨m, 2, none⟩ = some (.slice aoK B cK)) (ds := []) #[false, false, false, false, false, false, false, false, false, false, false, false] (by kernel_rfl) rfl rfl ⟨(by first | exact HO.drew.cell 0 rfl _ rfl | exact HO.drew.cell 1 rfl _ rfl | exact HO.drew.cell 2 rfl _ rfl | exact HO.drew.cell 3 rfl _ rfl | exact HO.drew.cell 4 rfl _ rfl), (by first | exact HO.drew.cell 0 rfl _ rfl | exact HO.drew.cell 1 rfl _ rfl | exact HO.drew.cell 2 rfl _ rfl | exact HO.drew.cell 3 rfl _ rfl | exact HO.drew.cell 4 rfl _ rfl)⟩ (fun hHeld => ?_)
  replace HO := HO.drew
  refine pure_ (i := 1) (N := some 9) (v := ?_) (a' := ?_) #[false, true, false, false, false, false, false, false, false, false, false, false] rfl rfl (by kernel_rfl) (fun _ _ _ h => h) (Or.inl ⟨by rfl, ?_⟩) ?_ ?_
  rotate_left
  · intro w'
    go_simp
    with_reducible rfl
  rotate_left
  · simp only [Act.put, List.setIfInBounds_toArray, List.set_cons_zero, List.set_cons_succ, i64_w, i32_w]
    rfl
  refine pure_ (i := 2) (N := some 10) (v := ?_) (a' := ?_) #[false, true, true, false, false, false, false, false, false, false, false, false] rfl rfl (by kernel_rfl) (fun _ _ _ h => h) (Or.inl ⟨by rfl, ?_⟩) ?_ ?_
  rotate_left
  · intro w'
    go_simp
    with_reducible rfl
  rotate_left
  · simp only [Act.put, List.setIfInBounds_toArray, List.set_cons_zero, List.set_cons_succ, i64_w, i32_w]
    rfl
  refine pure_ (i := 3) (N := some 11) (v := ?_) (a' := ?_) #[false, true, true, true, false, false, false, false, false, false, false, false] rfl rfl (by kernel_rfl) (fun _ _ _ h => h) (Or.inl ⟨by rfl, ?_⟩) ?_ ?_
  rotate_left
  · intro w'
    go_simp
    with_reducible rfl
  rotate_left
  · simp only [Act.put, List.setIfInBounds_toArray, List.set_cons_zero, List.set_cons_succ, i64_w, i32_w]
    rfl
  refine pure_ (i := 6) (N := some 14) (v := ?_) (a' := ?_) #[false, true, true, true, false, false, true, false, false, false, false, false] rfl rfl (by kernel_rfl) (fun _ _ _ h => h) (Or.inl ⟨by rfl, ?_⟩) ?_ ?_
  rotate_left
  · intro w'
    go_simp
    with_reducible rfl
  rotate_left
  · simp only [Act.put, List.setIfInBounds_toArray, List.set_cons_zero, List.set_cons_succ, i64_w, i32_w]
    rfl
  refine pure_ (i := 7) (N := some 15) (v := ?_) (a' := ?_) #[false, true, true, true, false, false, true, true, false, false, false, false] rfl rfl (by kernel_rfl) (fun _ _ _ h => h) (Or.inl ⟨by rfl, ?_⟩) ?_ ?_
  rotate_left
  · intro w'
    go_simp
    with_reducible rfl
  rotate_left
  · simp only [Act.put, List.setIfInBounds_toArray, List.set_cons_zero, List.set_cons_succ, i64_w, i32_w]
    rfl
  refine pure_ (i := 8) (N := some 16) (v := ?_) (a' := ?_) #[false, true, true, true, false, false, true, true, true, false, false, false] rfl rfl (by kernel_rfl) (fun _ _ _ h => h) (Or.inl ⟨by rfl, ?_⟩) ?_ ?_
  rotate_left
  · intro w'
    go_simp
    with_reducible rfl
  rotate_left
  · simp only [Act.put, List.setIfInBounds_toArray, List.set_cons_zero, List.set_cons_succ, i64_w, i32_w]
    rfl
  refine take_ (i := 4) (N := some 12) (v := ?_) (a' := ?_) #[false, true, true, true, true, false, true, true, true, false, false, false] rfl rfl (by kernel_rfl) (fun _ _ _ h => h) (Or.inl ⟨by rfl, ?_⟩) hHeld ?_ ?_
  rotate_left
  · rintro w' ⟨s0, s1⟩
    go_simp
    with_reducible rfl
  rotate_left
  · simp only [Act.put, List.setIfInBounds_toArray, List.set_cons_zero, List.set_cons_succ, i64_w, i32_w]
    rfl
  refine take_ (i := 9) (N := some 17) (v := ?_) (a' := ?_) #[false, true, true, true, true, false, true, true, true, true, false, false] rfl rfl (by kernel_rfl) (fun _ _ _ h => h) (Or.inl ⟨by rfl, ?_⟩) hHeld ?_ ?_
  rotate_left
  · rintro w' ⟨s0, s1⟩
    go_simp
    with_reducible rfl
  rotate_left
  · simp only [Act.put, List.setIfInBounds_toArray, List.set_cons_zero, List.set_cons_succ, i64_w, i32_w]
    rfl
  refine one_ (i := 0) (N := some 8) #[true, true, true, true, true, false, true, true, true, true, false, false] rfl rfl (by kernel_rfl) (by decide) (fun K hK => ?_)
  refine st_bslice 30 2 rfl rfl (by go_simp; rfl) rfl (by decide) HO ?_
  clear HO
  intro gn wn HO
  refine hK.out _ _ ⟨(by first | exact HO.cell 0 rfl _ rfl | exact HO.cell 1 rfl _ rfl | exact HO.cell 2 rfl _ rfl | exact HO.cell 3 rfl _ rfl | exact HO.cell 4 rfl _ rfl), (by first | exact HO.cell 0 rfl _ rfl | exact HO.cell 1 rfl _ rfl | exact HO.cell 2 rfl _ rfl | exact HO.cell 3 rfl _ rfl | exact HO.cell 4 rfl _ rfl)⟩ (fun hHeld => ?_)
  clear hK K
  refine norm_ (a' := ?_) ?_ ?_
  rotate_left
  · show Act.put _ (some 8) _ = _
    simp only [Act.put, List.setIfInBounds_toArray, List.set_cons_zero, List.set_cons_succ, i64_w, i32_w]
    rfl
  refine one_ (i := 5) (N := some 13) #[true, true, true, true, true, true, true, true, true, true, false, false] rfl rfl (by kernel_rfl) (by decide) (fun K hK => ?_)
  refine st_append_any 0 el30 rfl rfl (n := 0) rfl HO rfl rfl rfl (news := s.trial.flatMap c2) LA.out (NT.out _ [_] HO) (c2_one _) H1.out H2.out ?_
  clear HO
  intro gq cq wq hcq HO
  simp only [List.eraseIdx_cons_zero] at HO
  refine hK.out _ _ ⟨(by first | exact HO.cell 0 rfl _ rfl | exact HO.cell 1 rfl _ rfl | exact HO.cell 2 rfl _ rfl | exact HO.cell 3 rfl _ rfl | exact HO.cell 4 rfl _ rfl), (by first | exact HO.cell 0 rfl _ rfl | exact HO.cell 1 rfl _ rfl | exact HO.cell 2 rfl _ rfl | exact HO.cell 3 rfl _ rfl | exact HO.cell 4 rfl _ rfl)⟩ (fun hHeld => ?_)
  clear hK K
  refine norm_ (a' := ?_) ?_ ?_
  rotate_left
  · show Act.put _ (some 13) _ = _
    simp only [Act.put, List.setIfInBounds_toArray, List.set_cons_zero, List.set_cons_succ, i64_w, i32_w]
    rfl
  refine one_ (i := 10) (N := some 18) #[true, true, true, true, true, true, true, true, true, true, true, false] rfl rfl (by kernel_rfl) (by decide) (fun K hK => ?_)
  refine st_append_any 0 el30 rfl rfl rfl HO rfl L0.out rfl (news := s.kept.flatMap c2) LB.out (NK.out _ [_] HO) (c2_one _) H3.out H4.out ?_
  clear HO
  intro gr cr wr hcr HO
  simp only [List.eraseIdx_cons_zero] at HO
  refine hK.out _ _ ⟨(by first | exact HO.cell 0 rfl _ rfl | exact HO.cell 1 rfl _ rfl | exact HO.cell 2 rfl _ rfl | exact HO.cell 3 rfl _ rfl | exact HO.cell 4 rfl _ rfl), (by first | exact HO.cell 0 rfl _ rfl | exact HO.cell 1 rfl _ rfl | exact HO.cell 2 rfl _ rfl | exact HO.cell 3 rfl _ rfl | exact HO.cell 4 rfl _ rfl)⟩ (fun hHeld => ?_)
  clear hK K
  refine norm_ (a' := ?_) ?_ ?_
  rotate_left
  · show Act.put _ (some 18) _ = _
    simp only [Act.put, List.setIfInBounds_toArray, List.set_cons_zero, List.set_cons_succ, i64_w, i32_w]
    rfl
  refine pure_ (i := 11) (N := some 6) (v := ?_) (a' := ?_) #[true, true, true, true, true, true, true, true, true, true, true, true] rfl rfl (by kernel_rfl) (fun _ _ _ h => h) (Or.inl ⟨by rfl, ?_⟩) ?_ ?_
  rotate_left
  · intro w'
    go_simp
    with_reducible rfl
  rotate_left
  · simp only [Act.put, List.setIfInBounds_toArray, List.set_cons_zero, List.set_cons_succ, i64_w, i32_w]
    rfl
  refine done_ (by kernel_rfl) ?_
  have hall : [] ++ s.trial.flatMap c2 ++ s.kept.flatMap c2 = (all s).flatMap c2 := by unfold all; rw [List.nil_append, List.flatMap_append]
  rw [hall] at HO
  have e0 : 0 + A + B = A + B := by omega
  have RD : Rd wr (.slice (some ⟨gr, 0, none⟩) (A + B) cr) (all s) := by
    have := (RS.row (v := .slice (some ⟨gr, 0, none⟩) (all s).length cr) (all s) gr cr rfl).rd HO (fun x hx => by simp at hx; simp [hx])
    rw [HLall.out] at this; exact this
  have F := Lib.hid (find_any k RD (by rw [HLall.out]; have := HL3.out; omega))
  clear hall RD
  cases hi : idx (all s) k with
  | none =>
    have h1 : idxI (all s) k = -1 := by unfold idxI; rw [hi]
    have HH := Lib.hid (show has s k = none ∧ isIn s k = false from ⟨by unfold has; rw [hi]; rfl, by unfold isIn; rw [hi]; rfl⟩)
    rw [h1] at F
    clear hi h1
    go_wp2_with (go_at_call 32; refine F.out.mono ?_; rintro e w2 ⟨rfl, rfl⟩)
    go_ret2
    exact ⟨by rw [HH.out.1, HH.out.2]; rfl, _, _, Et, Ek, HT.out, HK.out, HO.tail⟩
  | some i =>
    have h1 : idxI (all s) k = (i : Int) := by unfold idxI; rw [hi]
    obtain ⟨n, hn, _⟩ := idx_some hi
    have hi2 := (List.getElem?_eq_some_iff.1 hn).1
    rw [HLall.out] at hi2
    have HH := Lib.hid (show has s k = some n ∧ isIn s k = true from ⟨by unfold has; rw [hi]; simp [hn], by unfold isIn; rw [hi]; rfl⟩)
    rw [h1] at F
    have hb0 : (0 : Int) ≤ (i : Int) := by omega
    have hb1 : (i : Int) < ((A + B : Nat) : Int) := by omega
    have hb2 : (i : Int) < (A : Int) + (B : Int) := by omega
    have hd : decide ((i : Int) < 0) = false := decide_eq_false (by omega)
    have cn : wr.cell? ⟨gr, i * 2 + 1, none⟩ = some (.int .i64 n) := HO.rowCell 0 rfl (i * 2 + 1) (by rw [flat2_get _ _ _ _ hn (by decide)]; rfl)
    clear hi h1 hn hi2
    go_wp2_with (first | (go_at_call 32; refine F.out.mono ?_; rintro e w2 ⟨rfl, rfl⟩) | (refine li_loadAt 2 rfl rfl rfl cn (by kernel_rfl) ?_))
    go_ret2
    exact ⟨by rw [HH.out.1, HH.out.2]; rfl, _, _, Et, Ek, HT.out, HK.out, HO.tail⟩
end Go.Proofs.Ytkkgajlddlnghaa

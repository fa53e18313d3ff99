/- Bytes all alike. -/
import Derived.Test.YtbgjfdeolckljaaDg
namespace Go.Proofs.Ytbgjfdeolckljaa
set_option linter.unusedVariables false
set_option linter.unusedSimpArgs false
set_option linter.unnecessarySimpa false
open Go.RowKit Go.Proofs.YtbgjfdeolckljaaW.PrintLast
theorem Dk.fill_set (n i : Nat) (b : Dk.Byte) (h : i < n) : (Dk.bys (List.replicate i b ++ List.replicate (n - i) 0#8)).set i (.int .u8 (b.toNat : Int)) = Dk.bys (List.replicate (i + 1) b ++ List.replicate (n - (i + 1)) 0#8) := by
  apply List.ext_getElem?
  intro j
  rw [List.getElem?_set]
  simp only [Dk.bys, List.map_append, List.map_replicate]
  by_cases e : i = j
  · subst e
    rw [if_pos rfl, if_pos (by simp; omega), List.getElem?_append_left (by simp)]
    simp
  · rw [if_neg e]
    rcases Nat.lt_or_ge j i with hj | hj
    · rw [List.getElem?_append_left (by simp; omega), List.getElem?_append_left (by simp; omega)]
      simp only [List.getElem?_replicate]
      rw [if_pos hj, if_pos (by omega)]
    · rw [List.getElem?_append_right (by simp; omega), List.getElem?_append_right (by simp; omega)]
      simp only [List.length_replicate, List.getElem?_replicate]
      have : (j - i < n - i) ↔ (j - (i + 1) < n - (i + 1)) := by omega
      simp only [this]
theorem flat_zero8 (n : Nat) : (List.replicate n [Value.int .u8 0]).flatten = Dk.bys (List.replicate 0 0#8 ++ List.replicate (n - 0) 0#8) := by
  simp only [List.replicate_zero, List.nil_append, Nat.sub_zero]
  rw [← Dk.bys_zero]
  induction n with
  | zero => rfl
  | succ m ih => simp [List.replicate_succ, ih]
set_option maxRecDepth 20000 in
set_option maxHeartbeats 4000000 in
theorem filled_any {w0 w : World} {L : List Ent} (n : Nat) (b : Dk.Byte) (HO : Own w0 w L) (hn : n ≤ 1000000) :
    Calls Try.prog 13 #[.int .i64 (n : Int), .int .u8 (b.toNat : Int)] w fun e w' => ∃ g, e = .returned (.slice (some ⟨g, 0, none⟩) n n) ∧ Own w0 w' ((g, RowP 5 1 n (Dk.bys (List.replicate n b))) :: L) := by
  obtain ⟨B, hB⟩ : ∃ B : Int, (b.toNat : Int) = B := ⟨_, rfl⟩
  rw [hB]
  have HB := Lib.hid hB
  have hmx : maxLen = 9223372036854775807 := rfl
  have hm := Lib.hid (show n ≤ maxLen by omega)
  clear hB hmx
  go_enter Try.func13, Try.ntmps13
  go_wp2_with (refine li_makeN (n := n) el35 rfl rfl rfl rfl (by omega) hm.out rfl HO ?_; clear HO; intro ga wa HO)
  rw [flat_zero8] at HO
  go_loopg [11] n (fun k x wr => ∃ i : Nat, x = .int .i64 (i : Int) ∧ i ≤ n ∧ k = n - i ∧ Own w0 wr ((ga, RowP 5 1 n (Dk.bys (List.replicate i b ++ List.replicate (n - i) 0#8))) :: L))
  case atStart => exact ⟨0, by rfl, by omega, by omega, HO⟩
  case round =>
    clear HO
    obtain ⟨i, rfl, i1, hk, HO⟩ := hrel
    rcases Nat.lt_or_ge i n with hi | hi
    · have hd : decide ((i : Int) < (n : Int)) = true := decide_eq_true (by omega)
      have hw1 : IntKind.i64.wrap ((i : Int) + 1) = ((i + 1 : Nat) : Int) := by rw [IntWalk.i64_in _ (by omega)]; rfl
      have hb0 : (0 : Int) ≤ (i : Int) := by omega
      have hb1 : (i : Int) < (n : Int) := by omega
      have hset := Dk.fill_set n i b hi
      rw [HB.out] at hset
      have HS := Lib.hid hset
      have hlh := Lib.hid (show i < (Dk.bys (List.replicate i b ++ List.replicate (n - i) 0#8)).length by rw [Dk.bys_len]; simp; omega)
      clear hset
      go_wp2_with (refine li_storeRowInt 0 rfl rfl rfl (off := i) rfl HO rfl rfl hlh.out (by kernel_rfl) ?_; clear HO; intro ws HO; simp only [List.set_cons_zero] at HO)
      rw [HS.out] at HO
      go_roundg (n - (i + 1))
      case measure => omega
      case rel => exact ⟨i + 1, rfl, by omega, rfl, HO⟩
    · obtain rfl : i = n := by omega
      have hd : decide ((i : Int) < (i : Int)) = false := by simp
      have e : List.replicate i b ++ List.replicate (i - i) 0#8 = List.replicate i b := by simp
      rw [e] at HO
      go_wp2_with (fail)
      go_ret
      exact ⟨ga, rfl, HO⟩
end Go.Proofs.Ytbgjfdeolckljaa

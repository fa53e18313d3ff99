/- Which disks there may be. -/
import Derived.Test.YtbgjfdeolckljaaDj
namespace Go.Proofs.Ytbgjfdeolckljaa
set_option linter.unusedVariables false
set_option linter.unusedSimpArgs false
set_option linter.unnecessarySimpa false
open Go.RowKit Go.Proofs.YtbgjfdeolckljaaW.PrintLast
set_option maxRecDepth 20000 in
set_option maxHeartbeats 8000000 in
theorem DiskNews_any (s k : Int) (w : World) :
    Calls Try.prog 5 #[.int .i64 s, .int .i64 k] w fun e w' => e = .returned (.bool true) ∧ Below w.heap.size w w' := by
  have HO := Own.nil w
  by_cases hbad : s < 1 ∨ 65536 < s ∨ k < 16 ∨ 4096 < k
  · have HN := Lib.hid (fun w => DNew_no (w := w) s k hbad)
    have HBAD := Lib.hid hbad
    clear hbad
    go_enter Try.func5, Try.ntmps5
    go_wp2_with (first | (go_at_call 9; (refine (alive_any HO).mono ?_); rintro e w2 ⟨rfl, HO1⟩; clear HO; have HO := HO1; clear HO1) | (go_at_call 10; (refine (HN.out _).mono ?_); rintro e w2 ⟨rfl, rfl⟩))
    all_goals first | (exfalso; have := HBAD.out; omega) | (go_ret; exact ⟨rfl, HO.below⟩)
  · have hs : 1 ≤ s ∧ s ≤ 65536 ∧ 16 ≤ k ∧ k ≤ 4096 := by omega
    obtain ⟨s1, s2, k1, k2⟩ := hs
    clear hbad
    obtain ⟨n, rfl⟩ : ∃ n : Nat, s = n := ⟨s.toNat, by omega⟩
    obtain ⟨z, rfl⟩ : ∃ n : Nat, k = n := ⟨k.toNat, by omega⟩
    have hK := Dk.new_ok n z (by omega) (by omega) (by omega) (by omega)
    have d2 : decide ((n : Int) ≤ 65536) = true := decide_eq_true (by omega)
    have d4 : decide ((n : Int) < 1) = false := decide_eq_false (by omega)
    have d5 : decide ((65536 : Int) < (n : Int)) = false := decide_eq_false (by omega)
    have d6 : decide ((z : Int) < 16) = false := decide_eq_false (by omega)
    have d7 : decide ((4096 : Int) < (z : Int)) = false := decide_eq_false (by omega)
    have hw1 : IntKind.i64.wrap ((n : Int) - 1) = ((n - 1 : Nat) : Int) := by rw [IntWalk.i64_in _ (by omega)]; omega
    have hw2 : IntKind.i64.wrap ((z : Int) - 1) = ((z - 1 : Nat) : Int) := by rw [IntWalk.i64_in _ (by omega)]; omega
    obtain ⟨m, hm⟩ : ∃ m, n - 1 = m := ⟨_, rfl⟩
    obtain ⟨y, hy⟩ : ∃ y, z - 1 = y := ⟨_, rfl⟩
    rw [hm] at hw1
    rw [hy] at hw2
    have hts : Dk.toldS ⟨z, List.replicate n Dk.zero, [], false⟩ m = Dk.zero := by
      unfold Dk.toldS
      simp only [Dk.lastW]
      rw [List.getD_eq_getElem?_getD, List.getElem?_replicate, if_pos (by omega)]; rfl
    have hby : Dk.bytes ⟨z, List.replicate n Dk.zero, [], false⟩ m = List.replicate z 0#8 := by unfold Dk.bytes; rw [hts]; rfl
    have HTS := Lib.hid hts
    have HBY := Lib.hid hby
    have hget := Lib.hid (show (Dk.bys (List.replicate z 0#8))[y]? = some (.int .u8 0) by
      rw [← Dk.bys_zero, List.getElem?_replicate, if_pos (by omega)])
    have hy0 : (0 : Int) ≤ (y : Int) := by omega
    have hy1 : (y : Int) < (z : Int) := by omega
    have hmn := Lib.hid (show m < (List.replicate n Dk.zero).length by simp; omega)
    clear hts hby hm hy
    by_cases h1 : (300 : Int) < (n : Int)
    · have d1 : decide ((300 : Int) < (n : Int)) = true := decide_eq_true h1
      by_cases h3 : (64 : Int) < (z : Int)
      · have d3 : decide ((64 : Int) < (z : Int)) = true := decide_eq_true h3
        go_enter Try.func5, Try.ntmps5
        go_wp2_with (go_at_call 9; (refine (alive_any HO).mono ?_); rintro e w2 ⟨rfl, HO1⟩; clear HO; have HO := HO1; clear HO1)
        go_ret
        exact ⟨rfl, HO.below⟩
      · have d3 : decide ((64 : Int) < (z : Int)) = false := decide_eq_false h3
        go_enter Try.func5, Try.ntmps5
        go_wp2_with (first | (go_at_call 9; (refine (alive_any HO).mono ?_); rintro e w2 ⟨rfl, HO1⟩; clear HO; have HO := HO1; clear HO1))
        go_at_call 10; refine (DNew_yes n z HO (by omega) (by omega) (by omega) (by omega)).mono ?_; rintro e w1 ⟨g, E, rfl, hD, HO1⟩
        clear HO
        go_wp2_with (fail)
        go_at_call 18; refine (Size_any hD HO1).mono ?_; rw [show (List.replicate n Dk.zero).length = n from List.length_replicate]; rintro e w3 ⟨rfl, nd, rfl⟩
        have HO := HO1.drewN nd
        clear HO1
        go_wp2_with (fail)
        go_at_call 17; refine (Read_ok m hK hD HO hmn.out rfl).mono ?_; rw [HTS.out, HBY.out]; rintro e w4 (⟨⟨ht, _⟩, _⟩ | ⟨_, gz, cz, rfl, HO9⟩)
        · cases ht
        clear HO
        have HO := HO9
        clear HO9
        go_wp2_with (refine li_loadRow 0 5 rfl rfl (off := y) rfl HO rfl hget.out (by kernel_rfl) ?_)
        go_ret
        exact ⟨rfl, HO.below⟩
    · have d1 : decide ((300 : Int) < (n : Int)) = false := decide_eq_false h1
      go_enter Try.func5, Try.ntmps5
      go_wp2_with (first | (go_at_call 9; (refine (alive_any HO).mono ?_); rintro e w2 ⟨rfl, HO1⟩; clear HO; have HO := HO1; clear HO1))
      go_at_call 10; refine (DNew_yes n z HO (by omega) (by omega) (by omega) (by omega)).mono ?_; rintro e w1 ⟨g, E, rfl, hD, HO1⟩
      clear HO
      go_wp2_with (fail)
      go_at_call 18; refine (Size_any hD HO1).mono ?_; rw [show (List.replicate n Dk.zero).length = n from List.length_replicate]; rintro e w3 ⟨rfl, nd, rfl⟩
      have HO := HO1.drewN nd
      clear HO1
      go_wp2_with (fail)
      go_at_call 17; refine (Read_ok m hK hD HO hmn.out rfl).mono ?_; rw [HTS.out, HBY.out]; rintro e w4 (⟨⟨ht, _⟩, _⟩ | ⟨_, gz, cz, rfl, HO9⟩)
      · cases ht
      clear HO
      have HO := HO9
      clear HO9
      go_wp2_with (refine li_loadRow 0 5 rfl rfl (off := y) rfl HO rfl hget.out (by kernel_rfl) ?_)
      go_ret
      exact ⟨rfl, HO.below⟩
end Go.Proofs.Ytbgjfdeolckljaa

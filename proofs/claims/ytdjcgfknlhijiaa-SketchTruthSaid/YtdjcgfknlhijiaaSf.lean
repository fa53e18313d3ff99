/- A sketch's count of a key: the least of its counters; the number of adds. -/
import Derived.Test.YtdjcgfknlhijiaaSe
namespace Go.Proofs.Ytdjcgfknlhijiaa
set_option linter.unusedVariables false
set_option linter.unusedSimpArgs false
set_option linter.unnecessarySimpa false
open Go.RowKit Go.Proofs.YtdjcgfknlhijiaaW.PrintLast
namespace Sk
noncomputable def val (key : Int) (j : Nat) (p : Row) : Int := p.2.getD (ixn key j p.2.length) 0
noncomputable def vals (key : Int) (R : List Row) : List Int := R.mapIdx fun j p => val key j p
noncomputable def leastTo (key : Int) (R : List Row) (k : Nat) : Int := ((vals key R).take k).foldl min ((vals key R).getD 0 0)
noncomputable def count (key : Int) (R : List Row) : Int := leastTo key R R.length
theorem vals_at {key : Int} {R : List Row} {j : Nat} {p : Row} (h : R[j]? = some p) : (vals key R)[j]? = some (val key j p) := by simp [vals, h]
theorem least_zero {key : Int} {R : List Row} {p : Row} (h : R[0]? = some p) : leastTo key R 0 = val key 0 p := by
  simp [leastTo, List.getD_eq_getElem?_getD, vals_at h]
theorem least_succ {key : Int} {R : List Row} {j : Nat} {p : Row} (h : R[j]? = some p) : leastTo key R (j + 1) = min (leastTo key R j) (val key j p) := by
  have hv := vals_at (key := key) h
  have hj := (List.getElem?_eq_some_iff.1 hv).1
  unfold leastTo
  rw [List.take_succ_eq_append_getElem hj, List.foldl_append, (List.getElem?_eq_some_iff.1 hv).2]
  rfl
end Sk
theorem val_cell (key : Int) (j b : Nat) (l : List Int) (h : Sk.ixn key j l.length < l.length) : (cells64 l)[Sk.ixn key j l.length]? = some (.int .i64 (Sk.val key j (b, l))) := by
  rw [cells64_get h]
  unfold Sk.val
  rw [List.getD_eq_getElem?_getD, List.getElem?_eq_getElem h]; rfl
set_option maxRecDepth 20000 in
set_option maxHeartbeats 4000000 in
theorem Count_any {w0 w : World} {L : List Ent} {g gr cap : Nat} {af ad : Int} {R : List Row} {wd : Nat} (key : Int) (HO : Own w0 w (SkE g gr cap af ad R ++ L)) (k1 : 0 ≤ key) (k2 : key < 18446744073709551616) (hS : Sk.Shape wd R) :
    Calls Try.prog 17 #[.pointer (some ⟨g, 0, none⟩), .int .u64 key] w fun e w' => e = .returned (.int .i64 (Sk.count key R)) ∧ w = w' := by
  have hf := hS.few
  have h1 := hS.some_
  have hw1' := hS.w1
  have hw2' := hS.w2
  obtain ⟨n, hn⟩ : ∃ n, R.length = n := ⟨_, rfl⟩
  obtain ⟨⟨b0, l0⟩, h0R⟩ : ∃ p, R[0]? = some p := ⟨_, List.getElem?_eq_getElem (by omega)⟩
  have hlw0 : l0.length = wd := hS.all _ (List.mem_of_getElem? h0R)
  have hI0 := Sk.ixn_lt key (0 : Nat) l0.length (by omega)
  have hv0 : (cells64 l0)[Sk.ixn key (0 : Nat) l0.length]? = some (.int .i64 (Sk.leastTo key R 0)) := by
    rw [Sk.least_zero h0R]
    exact val_cell key 0 b0 l0 hI0
  obtain ⟨I0, eI0⟩ : ∃ I, Sk.ixn key (0 : Nat) l0.length = I := ⟨_, rfl⟩
  rw [eI0] at hv0 hI0
  go_enter Try.func17, Try.ntmps17
  go_wp2_with (first | (refine li_load 0 48 rfl rfl rfl HO rfl rfl (by kernel_rfl) ?_) | (go_at_call 22; refine (counter_any key ((0 : Nat) : Int) b0 l0 HO k1 k2 (by omega) (by simpa using h0R) (by omega) (by omega) (by omega)).mono ?_; rw [eI0]; rintro e w1 ⟨rfl, rfl⟩) | (refine li_loadRow (0 + 2) 3 rfl rfl (off := I0) rfl HO (SkE_row h0R) hv0 (by kernel_rfl) ?_))
  go_loopg [5, 17] n (fun k v5 v wr => ∃ j : Nat, v = .int .i64 (j : Int) ∧ j ≤ n ∧ k = n - j ∧ v5 = .int .i64 (Sk.leastTo key R j) ∧ wr = w)
  case atStart => exact ⟨0, by rfl, by omega, by omega, rfl, rfl⟩
  case round =>
    obtain ⟨j, rfl, j1, hk, rfl, rfl⟩ := hrel
    have hw1 : IntKind.i64.wrap ((j : Int) + 1) = ((j + 1 : Nat) : Int) := by rw [IntWalk.i64_in _ (by omega)]; rfl
    rcases Nat.lt_or_ge j n with hj | hj
    · have hd : decide ((j : Int) < (n : Int)) = true := decide_eq_true (by omega)
      obtain ⟨⟨b, l⟩, hjR⟩ : ∃ p, R[j]? = some p := ⟨_, List.getElem?_eq_getElem (by omega)⟩
      have hlw : l.length = wd := hS.all _ (List.mem_of_getElem? hjR)
      have hI := Sk.ixn_lt key j l.length (by omega)
      have hv : (cells64 l)[Sk.ixn key j l.length]? = some (.int .i64 (Sk.val key j (b, l))) := val_cell key j b l hI
      have hls := Sk.least_succ (key := key) hjR
      obtain ⟨V, eV⟩ : ∃ V, Sk.val key j (b, l) = V := ⟨_, rfl⟩
      obtain ⟨I, eI⟩ : ∃ I, Sk.ixn key j l.length = I := ⟨_, rfl⟩
      rw [eV] at hv hls
      rw [eI] at hv hI
      have hls' := Lib.hid hls
      clear hls
      go_wp2_with (first | (go_at_call 22; refine (counter_any key (j : Int) b l HO k1 k2 (by omega) (by simpa using hjR) (by omega) (by omega) (by omega)).mono ?_; rw [eI]; rintro e w1 ⟨rfl, rfl⟩) | (refine li_loadRow (j + 2) 3 rfl rfl (off := I) rfl HO (SkE_row hjR) hv (by kernel_rfl) ?_))
      all_goals
        go_roundg (n - (j + 1))
        case measure => omega
        case rel => exact ⟨j + 1, rfl, by omega, rfl, by rw [hls'.out]; congr 1; omega, rfl⟩
    · obtain rfl : j = n := by omega
      have hd : decide ((j : Int) < (j : Int)) = false := by simp
      go_wp2_with (fail)
      go_ret
      exact ⟨by unfold Sk.count; rw [hn]; rfl, rfl⟩
theorem Adds_any {w0 w : World} {L : List Ent} {g gr cap : Nat} {af ad : Int} {R : List Row} (HO : Own w0 w (SkE g gr cap af ad R ++ L)) :
    Calls Try.prog 19 #[.pointer (some ⟨g, 0, none⟩)] w fun e w' => e = .returned (.int .i64 ad) ∧ w = w' := by
  go_enter Try.func19, Try.ntmps19
  go_wp2_with (first | (refine li_load 0 2 rfl rfl rfl HO rfl rfl (by kernel_rfl) ?_))
  go_ret
  exact ⟨rfl, rfl⟩
end Go.Proofs.Ytdjcgfknlhijiaa

/- What the law on rests computes. -/
import Derived.Test.YtmpoidkgjnkjcaaRg
namespace Go.Proofs.Ytmpoidkgjnkjcaa
set_option linter.unusedVariables false
set_option linter.unusedSimpArgs false
set_option linter.unnecessarySimpa false
open Go.RowKit Go.Proofs.YtmpoidkgjnkjcaaW.PrintLast
section
variable {w0 w : World} {L : List Ent} {g : Nat}
theorem O_Fail_at (b f m r nx now T : Int) (HO : Own w0 w ((g, CellsP 59 (timl b f m r nx)) :: L)) (h0 : 0 ≤ r) (h5 : r ≤ 1000) (h6 : r + 1 ≤ b) (h1 : 1 ≤ f) (h2 : f ≤ m) (h3 : m ≤ 1099511627776) (hT : Rt.held now + Rt.dbl f m r.toNat = T) :
    Calls Try.prog 11 #[.pointer (some ⟨g, 0, none⟩), .int .i64 now] w fun e w' => e = .returned (.tuple #[.int .i64 T, .bool true]) ∧ Own w0 w' ((g, CellsP 59 (timl b f m (r + 1) T)) :: L) := by
  subst hT
  exact O_Fail_yes b f m r nx now HO h0 h5 h6 h1 h2 h3
theorem O_Ready_yes (b f m r nx now : Int) (HO : Own w0 w ((g, CellsP 59 (timl b f m r nx)) :: L)) (h0 : r ≤ b) (h1 : 0 ≤ now) (h2 : now ≤ 1099511627776) (h3 : nx ≤ now) :
    Calls Try.prog 15 #[.pointer (some ⟨g, 0, none⟩), .int .i64 now] w fun e w' => e = .returned (.bool true) ∧ Own w0 w' ((g, CellsP 59 (timl b f m r nx)) :: L) := by
  have := O_Ready b f m r nx now HO
  rw [show Rt.may b r nx now = true by unfold Rt.may; rw [Rt.held_in h1 h2]; simp; omega] at this
  exact this
theorem O_Ready_no (b f m r nx now : Int) (HO : Own w0 w ((g, CellsP 59 (timl b f m r nx)) :: L)) (h1 : 0 ≤ now) (h2 : now ≤ 1099511627776) (h3 : b < r ∨ now < nx) :
    Calls Try.prog 15 #[.pointer (some ⟨g, 0, none⟩), .int .i64 now] w fun e w' => e = .returned (.bool false) ∧ Own w0 w' ((g, CellsP 59 (timl b f m r nx)) :: L) := by
  have := O_Ready b f m r nx now HO
  rw [show Rt.may b r nx now = false by unfold Rt.may; rw [Rt.held_in h1 h2]; simp; omega] at this
  exact this
theorem O_Left_at (b f m r nx V : Int) (HO : Own w0 w ((g, CellsP 59 (timl b f m r nx)) :: L)) (h0 : 0 ≤ r) (h1 : r ≤ 1001) (h2 : 0 ≤ b) (h3 : b ≤ 1000) (hV : max (b - r) 0 = V) :
    Calls Try.prog 17 #[.pointer (some ⟨g, 0, none⟩)] w fun e w' => e = .returned (.int .i64 V) ∧ Own w0 w' ((g, CellsP 59 (timl b f m r nx)) :: L) := by
  subst hV
  exact O_Left b f m r nx HO h0 h1 h2 h3
end
set_option maxRecDepth 20000 in
set_option maxHeartbeats 8000000 in
theorem RetryRests_any (fl r nw : Int) (w : World) (b1 : 0 ≤ fl) (b2 : fl ≤ 255) (c1 : 0 ≤ r) (c2 : r ≤ 65535) (d1 : 0 ≤ nw) (d2 : nw ≤ 65535) :
    Calls Try.prog 4 #[.int .u8 fl, .int .u16 r, .int .u16 nw] w fun e w' => e = .returned (.bool true) ∧ Below w.heap.size w w' := by
  have HO := Own.nil w
  have hm : fl.tmod 60 = fl % 60 := Int.tmod_eq_emod_of_nonneg b1
  obtain ⟨n, en, n1, n2⟩ : ∃ n, n = fl % 60 ∧ 0 ≤ n ∧ n ≤ 59 := ⟨_, rfl, by omega, by omega⟩
  obtain ⟨a, ea, a1, a2⟩ : ∃ a, a = 1 + r ∧ 1 ≤ a ∧ a ≤ 65536 := ⟨_, rfl, by omega, by omega⟩
  obtain ⟨b, eb, e1, e2⟩ : ∃ b, b = a + nw ∧ a ≤ b ∧ b ≤ 131071 := ⟨_, rfl, by omega, by omega⟩
  have hw1 : IntKind.i64.wrap fl = fl := IntWalk.i64_in _ (by omega)
  have hw2 : IntKind.i64.wrap r = r := IntWalk.i64_in _ (by omega)
  have hw3 : IntKind.i64.wrap nw = nw := IntWalk.i64_in _ (by omega)
  have hw5 : IntKind.i64.wrap (1 + r) = a := by rw [ea]; exact IntWalk.i64_in _ (by omega)
  have hw6 : IntKind.i64.wrap (a + nw) = b := by rw [eb]; exact IntWalk.i64_in _ (by omega)
  have hok : Rt.ok n a b = true := by unfold Rt.ok Rt.rests; simp; omega
  have hme := en.symm
  clear en ea eb
  go_enter Try.func4, Try.ntmps4
  go_wp2_with (first | (go_at_call 8; refine (alive_O HO).mono ?_; rintro e w1 ⟨rfl, HO1⟩; clear HO; have HO := HO1; clear HO1))
  go_at_call 9; refine (O_New n a b HO hok).mono ?_; rintro e w1 ⟨g, rfl, HO1⟩; clear HO; have HO := HO1; clear HO1
  go_wp2_with (fail)
  go_loopg [12, 13, 14] n.toNat (fun k v12 v13 v14 wr => ∃ j nx l : Int, v14 = .int .i64 j ∧ v12 = .int .i64 nx ∧ v13 = .int .i64 l ∧ 0 ≤ j ∧ j ≤ n ∧ k = (n - j).toNat ∧ 0 ≤ nx ∧ nx ≤ j * 131072 ∧ 1 ≤ l ∧ l ≤ b ∧ l ≤ Rt.dbl a b j.toNat ∧ Rt.dbl a b j.toNat ≤ 2 * l ∧ Rt.dbl a b j.toNat ≤ b ∧ (j = 0 → Rt.dbl a b j.toNat = a) ∧ Own w wr [(g, CellsP 59 (timl n a b j nx))])
  case atStart => exact ⟨0, 0, a, rfl, rfl, rfl, by omega, by omega, by omega, by omega, by omega, by omega, by omega, by simp [Rt.dbl], by simp [Rt.dbl]; omega, by simp [Rt.dbl]; omega, by simp [Rt.dbl], HO⟩
  case round =>
    clear HO
    obtain ⟨j, nx, l, rfl, rfl, rfl, j1, j2, hk, x1, x2, l1, l2, hD3, hD4, hD5, hD6, HO⟩ := hrel
    have hh : Rt.held nx = nx := Rt.held_in x1 (by omega)
    have hD2 : Rt.dbl a b (j + 1).toNat = min (2 * Rt.dbl a b j.toNat) b := by rw [show (j + 1).toNat = j.toNat + 1 by omega]; rfl
    obtain ⟨D, eD⟩ : ∃ D, Rt.dbl a b j.toNat = D := ⟨_, rfl⟩
    obtain ⟨T, eT⟩ : ∃ T, nx + D = T := ⟨_, rfl⟩
    have hT : Rt.held nx + Rt.dbl a b j.toNat = T := by rw [hh, eD, eT]
    rw [eD] at hD2 hD3 hD4 hD5 hD6
    have hw7 : IntKind.i64.wrap (j + 1) = j + 1 := IntWalk.i64_in _ (by omega)
    have hw8 : IntKind.i64.wrap (T - nx) = D := by rw [IntWalk.i64_in _ (by omega)]; omega
    have hw9 : IntKind.i64.wrap (2 * l) = 2 * l := IntWalk.i64_in _ (by omega)
    have hw10 : IntKind.i64.wrap (T - 1) = T - 1 := IntWalk.i64_in _ (by omega)
    have hw11 : IntKind.i64.wrap (n - 1) = n - 1 := IntWalk.i64_in _ (by omega)
    have hw12 : IntKind.i64.wrap (n - 1 - j) = n - 1 - j := IntWalk.i64_in _ (by omega)
    have hg1 : decide (D < l) = false := decide_eq_false (by omega)
    have hg2 : decide (b < D) = false := decide_eq_false (by omega)
    have hg3 : decide (2 * l < D) = false := decide_eq_false (by omega)
    rcases (by omega : (j < n ∧ j = 0) ∨ (j < n ∧ j ≠ 0) ∨ j = n) with ⟨hlt, hz⟩ | ⟨hlt, hz⟩ | rfl
    · have hd : decide (j < n) = true := decide_eq_true hlt
      have hd1 : (j == 0) = true := by simp; omega
      have hd2 : (D == a) = true := by simp; omega
      go_wp2_with (fail)
      go_at_call 11; refine (O_Fail_at n a b j nx nx T HO (by omega) (by omega) (by omega) (by omega) (by omega) (by omega) hT).mono ?_; rintro e w2 ⟨rfl, HO1⟩; clear HO; have HO := HO1; clear HO1
      go_wp2_with (fail)
      go_at_call 15; refine (O_Ready_no n a b (j + 1) T (T - 1) HO (by omega) (by omega) (by omega)).mono ?_; rintro e w2 ⟨rfl, HO1⟩; clear HO; have HO := HO1; clear HO1
      go_wp2_with (fail)
      go_at_call 15; refine (O_Ready_yes n a b (j + 1) T T HO (by omega) (by omega) (by omega) (by omega)).mono ?_; rintro e w2 ⟨rfl, HO1⟩; clear HO; have HO := HO1; clear HO1
      go_wp2_with (fail)
      go_at_call 17; refine (O_Left_at n a b (j + 1) T (n - 1 - j) HO (by omega) (by omega) (by omega) (by omega) (by omega)).mono ?_; rintro e w2 ⟨rfl, HO1⟩; clear HO; have HO := HO1; clear HO1
      go_wp2_with (fail)
      go_roundg (n - (j + 1)).toNat
      case measure => omega
      case rel => exact ⟨j + 1, T, D, by first | rfl | (congr 1; omega), rfl, by first | rfl | (congr 1; omega), by omega, by omega, rfl, by omega, by omega, by omega, by omega, by rw [hD2]; omega, by rw [hD2]; omega, by rw [hD2]; omega, by omega, HO⟩
    · have hd : decide (j < n) = true := decide_eq_true hlt
      have hd1 : (j == 0) = false := by simp; omega
      go_wp2_with (fail)
      go_at_call 11; refine (O_Fail_at n a b j nx nx T HO (by omega) (by omega) (by omega) (by omega) (by omega) (by omega) hT).mono ?_; rintro e w2 ⟨rfl, HO1⟩; clear HO; have HO := HO1; clear HO1
      go_wp2_with (fail)
      go_at_call 15; refine (O_Ready_no n a b (j + 1) T (T - 1) HO (by omega) (by omega) (by omega)).mono ?_; rintro e w2 ⟨rfl, HO1⟩; clear HO; have HO := HO1; clear HO1
      go_wp2_with (fail)
      go_at_call 15; refine (O_Ready_yes n a b (j + 1) T T HO (by omega) (by omega) (by omega) (by omega)).mono ?_; rintro e w2 ⟨rfl, HO1⟩; clear HO; have HO := HO1; clear HO1
      go_wp2_with (fail)
      go_at_call 17; refine (O_Left_at n a b (j + 1) T (n - 1 - j) HO (by omega) (by omega) (by omega) (by omega) (by omega)).mono ?_; rintro e w2 ⟨rfl, HO1⟩; clear HO; have HO := HO1; clear HO1
      go_wp2_with (fail)
      go_roundg (n - (j + 1)).toNat
      case measure => omega
      case rel => exact ⟨j + 1, T, D, by first | rfl | (congr 1; omega), rfl, by first | rfl | (congr 1; omega), by omega, by omega, rfl, by omega, by omega, by omega, by omega, by rw [hD2]; omega, by rw [hD2]; omega, by rw [hD2]; omega, by omega, HO⟩
    · have hd : decide (j < j) = false := by simp
      go_wp2_with (fail)
      go_at_call 11; refine (O_Fail_over j a b j nx nx HO (by omega) (by omega) (by omega)).mono ?_; rintro e w2 ⟨rfl, HO1⟩; clear HO; have HO := HO1; clear HO1
      go_wp2_with (fail)
      go_at_call 15; refine (O_Ready_no j a b (j + 1) nx 1099511627776 HO (by omega) (by omega) (by omega)).mono ?_; rintro e w2 ⟨rfl, HO1⟩; clear HO; have HO := HO1; clear HO1
      go_wp2_with (fail)
      go_at_call 17; refine (O_Left_at j a b (j + 1) nx 0 HO (by omega) (by omega) (by omega) (by omega) (by omega)).mono ?_; rintro e w2 ⟨rfl, HO1⟩; clear HO; have HO := HO1; clear HO1
      go_wp2_with (fail)
      go_at_call 13; refine (O_Good j a b (j + 1) nx HO).mono ?_; rintro e w2 ⟨rfl, HO1⟩; clear HO; have HO := HO1; clear HO1
      go_wp2_with (fail)
      go_at_call 15; refine (O_Ready_yes j a b 0 0 0 HO (by omega) (by omega) (by omega) (by omega)).mono ?_; rintro e w2 ⟨rfl, HO1⟩; clear HO; have HO := HO1; clear HO1
      go_wp2_with (fail)
      go_at_call 17; refine (O_Left_at j a b 0 0 j HO (by omega) (by omega) (by omega) (by omega) (by omega)).mono ?_; rintro e w2 ⟨rfl, HO1⟩; clear HO; have HO := HO1; clear HO1
      go_wp2_with (fail)
      go_ret
      exact ⟨ret_b (by simp), HO.below⟩
end Go.Proofs.Ytmpoidkgjnkjcaa

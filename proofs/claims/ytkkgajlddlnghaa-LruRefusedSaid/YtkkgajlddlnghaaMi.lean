/- The contracts once more, over the entries that the lists own; the example; both lists behind some calls. -/
import Derived.Test.YtkkgajlddlnghaaMh
namespace Go.Proofs.Ytkkgajlddlnghaa
set_option linter.unusedVariables false
set_option linter.unusedSimpArgs false
set_option linter.unnecessarySimpa false
open Go.RowKit Go.Proofs.YtkkgajlddlnghaaW.PrintLast Lr
namespace Lr
def LQ (g b : Nat) (s : S) (E : List Ent) : Prop := ∃ n, n ≤ b ∧ LP g n s E
theorem Lw.lq {w0 w : World} {L : List Ent} {g n b : Nat} {s : S} (h : Lw w0 w L g n s) (hb : n ≤ b) : ∃ E, LQ g b s E ∧ Own w0 w (E ++ L) := by
  obtain ⟨E, h1, h2⟩ := h.open_
  exact ⟨E, ⟨n, hb, h1⟩, h2⟩
theorem LQ.mono {g b b' : Nat} {s : S} {E : List Ent} (h : LQ g b s E) (hb : b ≤ b') : LQ g b' s E := by
  obtain ⟨n, h1, h2⟩ := h
  exact ⟨n, Nat.le_trans h1 hb, h2⟩
end Lr
section
variable {w0 w : World} {L E : List Ent} {g b c : Nat} {s : S}
theorem QNew (m : Int) (HO : Own w0 w L) (h0 : 0 ≤ m) (h1 : m ≤ 1152921504606846976) :
    Calls Try.prog 11 #[.int .i64 m] w fun e w' => ∃ g E, e = .returned (.tuple #[.pointer (some ⟨g, 0, none⟩), .int .i64 0]) ∧ LQ g 0 ⟨m, [], []⟩ E ∧ Own w0 w' (E ++ L) :=
  (LNew_yes m HO h0 h1).mono fun _ _ ⟨g, he, hl⟩ => by
    obtain ⟨E, h1, h2⟩ := hl.lq (Nat.le_refl _)
    exact ⟨g, E, he, h1, h2⟩
theorem QAdd (k n : Int) (hP : LQ g b s E) (HO : Own w0 w (E ++ L)) (K : Ok s c) (hc : c ≤ 1000) (hw : (Lit.int .i64 k).wf = true) (hb : b ≤ 900000000) :
    Calls Try.prog 25 #[.pointer (some ⟨g, 0, none⟩), .int .i64 k, .int .i64 n] w fun e w' => ∃ E', e = .returned (.int .i64 (addE s k n)) ∧ LQ g (b + 2000) (add s k n) E' ∧ Own w0 w' (E' ++ L) := by
  obtain ⟨n', hn, hp⟩ := hP
  exact (LAdd_any k n (hp.lw HO) K (by omega) hw (by omega)).mono fun _ _ ⟨he, hl⟩ => by
    obtain ⟨E', h1, h2⟩ := hl.lq (b := b + 2000) (by omega)
    exact ⟨E', he, h1, h2⟩
theorem QTouch (k : Int) (hP : LQ g b s E) (HO : Own w0 w (E ++ L)) (K : Ok s c) (hc : c ≤ 1000) (hw : (Lit.int .i64 k).wf = true) (hb : b ≤ 900000000) :
    Calls Try.prog 24 #[.pointer (some ⟨g, 0, none⟩), .int .i64 k] w fun e w' => ∃ E', e = .returned (.bool (isIn s k)) ∧ LQ g (b + 2000) (touched s k) E' ∧ Own w0 w' (E' ++ L) := by
  obtain ⟨n', hn, hp⟩ := hP
  exact (LTouch_any k (hp.lw HO) K (by omega) hw (by omega)).mono fun _ _ ⟨he, hl⟩ => by
    obtain ⟨E', h1, h2⟩ := hl.lq (b := b + 2000) (by omega)
    exact ⟨E', he, h1, h2⟩
theorem QDrop (k : Int) (hP : LQ g b s E) (HO : Own w0 w (E ++ L)) (K : Ok s c) (hc : c ≤ 1000) (hw : (Lit.int .i64 k).wf = true) :
    Calls Try.prog 26 #[.pointer (some ⟨g, 0, none⟩), .int .i64 k] w fun e w' => ∃ E', e = .returned (.bool (isIn s k)) ∧ LQ g b (dropped s k) E' ∧ Own w0 w' (E' ++ L) := by
  obtain ⟨n', hn, hp⟩ := hP
  exact (LDrop_any k (hp.lw HO) K (by omega) hw).mono fun _ _ ⟨he, hl⟩ => by
    obtain ⟨E', h1, h2⟩ := hl.lq hn
    exact ⟨E', he, h1, h2⟩
theorem QOrder (hP : LQ g b s E) (HO : Own w0 w (E ++ L)) (K : Ok s c) (hc : c ≤ 1000) :
    Calls Try.prog 15 #[.pointer (some ⟨g, 0, none⟩)] w fun e w' => ∃ E' v Eo, e = .returned v ∧ IsP v (order s) Eo ∧ LQ g b s E' ∧ Own w0 w' (E' ++ (Eo ++ L)) := by
  obtain ⟨n', hn, hp⟩ := hP
  exact (LOrder_any (hp.lw HO) K (by omega)).mono fun _ _ ⟨v, Eo, he, hv, hl⟩ => by
    obtain ⟨E', h1, h2⟩ := hl.lq hn
    exact ⟨E', v, Eo, he, hv, h1, h2⟩
theorem QBytes (hP : LQ g b s E) (HO : Own w0 w (E ++ L)) :
    Calls Try.prog 17 #[.pointer (some ⟨g, 0, none⟩)] w fun e w' => ∃ E', e = .returned (.tuple #[.int .i64 (sum s.trial + sum s.kept), .int .i64 (sum s.kept)]) ∧ LQ g b s E' ∧ Own w0 w' (E' ++ L) := by
  obtain ⟨n', hn, hp⟩ := hP
  exact (LBytes_any (hp.lw HO)).mono fun _ _ ⟨he, hl⟩ => by
    obtain ⟨E', h1, h2⟩ := hl.lq hn
    exact ⟨E', he, h1, h2⟩
theorem QHas (k : Int) (hP : LQ g b s E) (HO : Own w0 w (E ++ L)) (K : Ok s c) (hw : (Lit.int .i64 k).wf = true) :
    Calls Try.prog 19 #[.pointer (some ⟨g, 0, none⟩), .int .i64 k] w fun e w' => ∃ E', e = .returned (.tuple #[.int .i64 ((has s k).getD 0), .bool (isIn s k)]) ∧ LQ g b s E' ∧ Own w0 w' (E' ++ L) := by
  obtain ⟨n', hn, hp⟩ := hP
  exact (LHas_any k (hp.lw HO) K hw).mono fun _ _ ⟨he, hl⟩ => by
    obtain ⟨E', h1, h2⟩ := hl.lq hn
    exact ⟨E', he, h1, h2⟩
theorem QKept (k : Int) (hP : LQ g b s E) (HO : Own w0 w (E ++ L)) (K : Ok s c) (hw : (Lit.int .i64 k).wf = true) :
    Calls Try.prog 21 #[.pointer (some ⟨g, 0, none⟩), .int .i64 k] w fun e w' => ∃ E', e = .returned (.bool (isKept s k)) ∧ LQ g b s E' ∧ Own w0 w' (E' ++ L) := by
  obtain ⟨n', hn, hp⟩ := hP
  exact (LKept_any k (hp.lw HO) K hw).mono fun _ _ ⟨he, hl⟩ => by
    obtain ⟨E', h1, h2⟩ := hl.lq hn
    exact ⟨E', he, h1, h2⟩
end
/-! ### The example -/
namespace Lr
def stA : Nat → S
  | 0 => ⟨10, [], []⟩
  | 1 => ⟨10, [(1, 6)], []⟩
  | 2 => ⟨10, [(1, 6), (2, 6)], []⟩
  | _ => ⟨10, [(1, 6), (2, 6), (3, 6)], []⟩
def sB : S := ⟨10, [(2, 6), (3, 6)], [(1, 6)]⟩
def sC : S := ⟨10, [(3, 6), (1, 6)], [(2, 6)]⟩
def sD : S := ⟨10, [(1, 6)], [(2, 6)]⟩
theorem stA_add : ∀ i, i < 3 → addE (stA i) ((i : Int) + 1) 6 = 0 ∧ add (stA i) ((i : Int) + 1) 6 = stA (i + 1)
  | 0, _ => ⟨by decide, by rfl⟩
  | 1, _ => ⟨by decide, by rfl⟩
  | 2, _ => ⟨by decide, by rfl⟩
theorem exB : isIn (stA 3) 1 = true ∧ touched (stA 3) 1 = sB := ⟨by decide, by rfl⟩
theorem exC : isIn sB 2 = true ∧ touched sB 2 = sC := ⟨by decide, by rfl⟩
theorem exO : order sB = [2, 3, 1] ∧ order sC = [3, 1, 2] := ⟨by rfl, by rfl⟩
theorem exD : isIn sC 3 = true ∧ dropped sC 3 = sD ∧ isIn sD 3 = false ∧ dropped sD 3 = sD := ⟨by decide, by rfl, by decide, by rfl⟩
theorem exE : addE sC 3 1 = 7 ∧ add sC 3 1 = sC ∧ addE sC 9 0 = 1 ∧ add sC 9 0 = sC ∧ isIn sC 9 = false ∧ touched sC 9 = sC ∧ isKept sC 2 = true ∧ isKept sC 1 = false ∧ (has sC 3).getD 0 = 6 := ⟨by decide, by rfl, by decide, by rfl, by decide, by rfl, by decide, by decide, by decide⟩
theorem exS : sum sC.trial + sum sC.kept = 18 ∧ sum sC.kept = 6 := ⟨by decide, by decide⟩
end Lr
set_option maxRecDepth 20000 in
set_option maxHeartbeats 16000000 in
theorem awake_any {w0 w : World} {L : List Ent} (HO : Own w0 w L) : Calls Try.prog 10 #[] w fun e w' => e = .returned (.bool true) ∧ Own w0 w' L := by
  have K0 : Ok (stA 0) 0 := ok_new 10 (by decide) (by decide)
  have hwf : ∀ k : Int, -100 ≤ k → k ≤ 100 → (Lit.int .i64 k).wf = true := fun k h1 h2 => WalkArith.wf_i64 (by omega)
  have HWF := Lib.hid hwf
  have KK0 := Lib.hid K0
  clear hwf K0
  go_enter Try.func10, Try.ntmps10
  go_wp2_with (fail)
  go_at_call 11; refine (QNew 10 HO (by decide) (by decide)).mono ?_; rintro e w1 ⟨g, E, rfl, hP, HO1⟩
  clear HO
  have HP := Lib.hid hP
  clear hP
  have HO := HO1
  clear HO1
  go_wp2_with (fail)
  go_at_call 11; refine (LNew_no (-1) (.inl (by decide))).mono ?_; rintro e w2 ⟨rfl, rfl⟩
  go_wp2_with (fail)
  go_loopg [32] 3 (fun q x wr => ∃ (i : Nat) (E : List Ent), x = .int .i64 (i : Int) ∧ i ≤ 3 ∧ q = 3 - i ∧ Hid (LQ g (2000 * i) (stA i) E) ∧ Hid (Ok (stA i) i) ∧ Own w0 wr (E ++ L))
  case atStart => exact ⟨0, E, by rfl, by omega, by omega, HP, KK0, HO⟩
  case round =>
    clear HO HP E
    obtain ⟨i, E, rfl, i1, hq, hP, hK, HO⟩ := hrel
    rcases Nat.lt_or_ge i 3 with hi | hi
    · have hd : decide ((i : Int) < 3) = true := decide_eq_true (by omega)
      have hwi : IntKind.i64.wrap ((i : Int) + 1) = (i : Int) + 1 := IntWalk.i64_in _ (by omega)
      obtain ⟨a1, a2⟩ := stA_add i hi
      have A1 := Lib.hid a1
      have A2 := Lib.hid a2
      have HI := Lib.hid hi
      clear a1 a2
      go_wp2_with (fail)
      go_at_call 25; refine (QAdd ((i : Int) + 1) 6 hP.out HO hK.out (by omega) (HWF.out _ (by omega) (by omega)) (by omega)).mono ?_; rw [A1.out, A2.out]; rintro e w3 ⟨E1, rfl, hP1, HO1⟩
      clear HO
      have hK1 := Lib.hid (show Ok (stA (i + 1)) (i + 1) by rw [← A2.out]; exact add_ok hK.out _ _ (HWF.out _ (by have := HI.out; omega) (by have := HI.out; omega)))
      have HP1 := Lib.hid (show LQ g (2000 * (i + 1)) (stA (i + 1)) E1 from hP1)
      clear hP1
      go_wp2_with (fail)
      go_roundg (3 - (i + 1))
      case measure => have := HI.out; omega
      case rel => exact ⟨i + 1, E1, by first | rfl | (rw [Int.natCast_add]; rfl), by have := HI.out; omega, rfl, HP1, hK1, HO1⟩
    · obtain rfl : i = 3 := by omega
      have hd : decide (((3 : Nat) : Int) < 3) = false := by decide
      have KB := Lib.hid (show Ok sB 3 by rw [← exB.2]; exact touched_ok hK.out 1)
      have KC := Lib.hid (show Ok sC 3 by rw [← exC.2]; exact touched_ok KB.out 2)
      have KD := Lib.hid (show Ok sD 3 by rw [← exD.2.1]; exact dropped_ok KC.out 3)
      have w1 := Lib.hid (HWF.out 1 (by decide) (by decide))
      have w2 := Lib.hid (HWF.out 2 (by decide) (by decide))
      have w3 := Lib.hid (HWF.out 3 (by decide) (by decide))
      have w9 := Lib.hid (HWF.out 9 (by decide) (by decide))
      go_wp2_with (fail)
      go_at_call 24; refine (QTouch 1 hP.out HO hK.out (by decide) w1.out (by decide)).mono ?_; rw [exB.1, exB.2]; rintro e wA ⟨E1, rfl, hP1, HO1⟩
      clear HO hP
      go_wp2_with (fail)
      go_at_call 15; refine (QOrder hP1 HO1 KB.out (by decide)).mono ?_; rw [exO.1]; rintro e wB ⟨E2, vx, Ex, rfl, hx, hP2, HO2⟩
      clear HO1 hP1
      have HX := Lib.hid hx
      clear hx
      go_wp2_with (fail)
      go_at_call 24; refine (QTouch 2 hP2 HO2 KB.out (by decide) w2.out (by decide)).mono ?_; rw [exC.1, exC.2]; rintro e wA ⟨E3, rfl, hP3, HO3⟩
      clear HO2 hP2
      go_wp2_with (fail)
      go_at_call 15; refine (QOrder hP3 HO3 KC.out (by decide)).mono ?_; rw [exO.2]; rintro e wB ⟨E4, vy, Ey, rfl, hy, hP4, HO4⟩
      clear HO3 hP3
      have HY := Lib.hid hy
      clear hy
      go_wp2_with (fail)
      go_at_call 17; refine (QBytes hP4 HO4).mono ?_; rw [exS.1, exS.2]; rintro e wA ⟨E5, rfl, hP5, HO5⟩
      clear HO4 hP4
      go_wp2_with (fail)
      go_at_call 19; refine (QHas 3 hP5 HO5 KC.out w3.out).mono ?_; rw [exE.2.2.2.2.2.2.2.2, exD.1]; rintro e wA ⟨E6, rfl, hP6, HO⟩
      clear HO5 hP5
      have HP6 := Lib.hid hP6
      clear hP6
      go_wp2_with (refine li_bslice 37 1 rfl rfl (by go_simp; rfl) rfl (by decide) HO ?_; clear HO; intro gs wb HO)
      go_at_call 14; refine (Same_eq (HX.out.ri HO (fun x hx => by simp [hx])) ((IsP.row (v := .slice (some ⟨gs, 0, none⟩) 3 3) [2, 3, 1] gs 3 rfl).ri HO (fun x hx => by simp at hx; rw [hx]; exact List.mem_cons_self ..)) (by decide)).mono ?_; rintro e w5 ⟨rfl, n5, rfl⟩
      replace HO := HO.tail.drewN n5
      go_wp2_with (refine li_bslice 37 1 rfl rfl (by go_simp; rfl) rfl (by decide) HO ?_; clear HO; intro gt wb HO)
      go_at_call 14; refine (Same_eq (HY.out.ri HO (fun x hx => by simp [hx])) ((IsP.row (v := .slice (some ⟨gt, 0, none⟩) 3 3) [3, 1, 2] gt 3 rfl).ri HO (fun x hx => by simp at hx; rw [hx]; exact List.mem_cons_self ..)) (by decide)).mono ?_; rintro e w5 ⟨rfl, n6, rfl⟩
      replace HO := HO.tail.drewN n6
      go_wp2_with (fail)
      go_at_call 21; refine (QKept 2 HP6.out HO KC.out w2.out).mono ?_; rw [exE.2.2.2.2.2.2.1]; rintro e wA ⟨E7, rfl, hP7, HO7⟩
      clear HO HP6
      go_wp2_with (fail)
      go_at_call 21; refine (QKept 1 hP7 HO7 KC.out w1.out).mono ?_; rw [exE.2.2.2.2.2.2.2.1]; rintro e wA ⟨E8, rfl, hP8, HO8⟩
      clear HO7 hP7
      go_wp2_with (fail)
      go_at_call 25; refine (QAdd 3 1 hP8 HO8 KC.out (by decide) w3.out (by decide)).mono ?_; rw [exE.1, exE.2.1]; rintro e wA ⟨E9, rfl, hP9, HO9⟩
      clear HO8 hP8
      go_wp2_with (fail)
      go_at_call 25; refine (QAdd 9 0 hP9 HO9 KC.out (by decide) w9.out (by decide)).mono ?_; rw [exE.2.2.1, exE.2.2.2.1]; rintro e wA ⟨E10, rfl, hP10, HO10⟩
      clear HO9 hP9
      go_wp2_with (fail)
      go_at_call 24; refine (QTouch 9 hP10 HO10 KC.out (by decide) w9.out (by decide)).mono ?_; rw [exE.2.2.2.2.1, exE.2.2.2.2.2.1]; rintro e wA ⟨E11, rfl, hP11, HO11⟩
      clear HO10 hP10
      go_wp2_with (fail)
      go_at_call 26; refine (QDrop 3 hP11 HO11 KC.out (by decide) w3.out).mono ?_; rw [exD.1, exD.2.1]; rintro e wA ⟨E12, rfl, hP12, HO12⟩
      clear HO11 hP11
      go_wp2_with (fail)
      go_at_call 26; refine (QDrop 3 hP12 HO12 KD.out (by decide) w3.out).mono ?_; rw [exD.2.2.1]; rintro e wA ⟨E13, rfl, hP13, HO13⟩
      clear HO12 hP12
      go_wp2_with (fail)
      go_ret
      exact ⟨rfl, HO13.sub (by rw [← List.append_assoc, ← List.append_assoc]; exact List.sublist_append_right _ L)⟩
end Go.Proofs.Ytkkgajlddlnghaa

/- Both lists side by side: may, do, run. -/
import Derived.Test.YtkkgajlddlnghaaMg
namespace Go.Proofs.Ytkkgajlddlnghaa
set_option linter.unusedVariables false
set_option linter.unusedSimpArgs false
set_option linter.unnecessarySimpa false
open Go.RowKit Go.Proofs.YtkkgajlddlnghaaW.PrintLast Lr
namespace Lr
/-- What a list owns, as entries. -/
def LP (g n : Nat) (s : S) (E : List Ent) : Prop := ∃ T mb F tt kk, E = T.ents ++ [(mb, Mp n F)] ∧ Rep T g mb F s.most tt kk ∧ kvs tt = s.trial ∧ kvs kk = s.kept
def RP (m : Nat) (s : S) (E : List Ent) : Prop := ∃ vt vk Et Ek, RS vt s.trial Et ∧ RS vk s.kept Ek ∧ E = (m, CellsP 32 [.int .i64 s.most, vt, vk]) :: (Et ++ Ek)
theorem Lw.open_ {w0 w : World} {L : List Ent} {g n : Nat} {s : S} (h : Lw w0 w L g n s) : ∃ E, LP g n s E ∧ Own w0 w (E ++ L) := by
  obtain ⟨T, mb, F, tt, kk, HO, R, ht, hk⟩ := h
  exact ⟨_, ⟨T, mb, F, tt, kk, rfl, R, ht, hk⟩, by simpa using HO⟩
theorem LP.lw {w0 w : World} {L E : List Ent} {g n : Nat} {s : S} (h : LP g n s E) (HO : Own w0 w (E ++ L)) : Lw w0 w L g n s := by
  obtain ⟨T, mb, F, tt, kk, rfl, R, ht, hk⟩ := h
  exact ⟨T, mb, F, tt, kk, by simpa using HO, R, ht, hk⟩
theorem Rw.open_ {w0 w : World} {L : List Ent} {m : Nat} {s : S} (h : Rw w0 w L m s) : ∃ E, RP m s E ∧ Own w0 w (E ++ L) := by
  obtain ⟨vt, vk, Et, Ek, hT, hK, HO⟩ := h
  exact ⟨_, ⟨vt, vk, Et, Ek, hT, hK, rfl⟩, by simpa using HO⟩
theorem RP.rw {w0 w : World} {L E : List Ent} {m : Nat} {s : S} (h : RP m s E) (HO : Own w0 w (E ++ L)) : Rw w0 w L m s := by
  obtain ⟨vt, vk, Et, Ek, hT, hK, rfl⟩ := h
  exact ⟨vt, vk, Et, Ek, hT, hK, by simpa using HO⟩
/-- Both of them. -/
def Bw (w0 w : World) (L : List Ent) (g m n : Nat) (s : S) : Prop := ∃ E1 E2, LP g n s E1 ∧ RP m s E2 ∧ Own w0 w (E1 ++ (E2 ++ L))
end Lr
theorem Own.mid {w0 w : World} {A B L : List Ent} (h : Own w0 w (A ++ (B ++ L))) : Own w0 w (B ++ (A ++ L)) := h.perm (by
  rw [← List.append_assoc, ← List.append_assoc]
  exact List.perm_append_comm.append_right L)
set_option maxRecDepth 20000 in
theorem may_any (k : Int) (w : World) : Calls Try.prog 12 #[.int .i64 k] w fun e w' => e = .returned (.bool (decide (0 ≤ k) && decide (k ≤ 1152921504606846976))) ∧ w = w' := by
  by_cases h : 0 ≤ k
  · have d : decide (0 ≤ k) = true := decide_eq_true h
    clear h
    obtain ⟨b, hb⟩ : ∃ b, decide (k ≤ 1152921504606846976) = b := ⟨_, rfl⟩
    have HB := Lib.hid hb
    go_enter Try.func12, Try.ntmps12
    go_wp2
    go_ret
    exact ⟨by rw [HB.out, d]; rfl, rfl⟩
  · have d : decide (0 ≤ k) = false := decide_eq_false h
    have H := Lib.hid h
    clear h
    go_enter Try.func12, Try.ntmps12
    go_wp2
    go_ret
    exact ⟨by first | rfl | (rw [d]; rfl), rfl⟩
namespace Lr
def av (a : Lr.Act) : Value := .agg #[.int .i64 a.1, .int .i64 a.2.1, .int .i64 a.2.2]
end Lr
set_option maxRecDepth 20000 in
set_option maxHeartbeats 8000000 in
theorem do_any {w0 w : World} {L : List Ent} {g m n c : Nat} {s : S} (q k b : Int) (HB : Bw w0 w L g m n s) (K : Ok s c) (hc : c ≤ 100000) (hw : (Lit.int .i64 k).wf = true) (hn : n ≤ 1000000000) :
    Calls Try.prog 13 #[.pointer (some ⟨g, 0, none⟩), .pointer (some ⟨m, 0, none⟩), .agg #[.int .i64 q, .int .i64 k, .int .i64 b]] w fun e w' => e = .returned (.bool true) ∧ Bw w0 w' L g m (n + c + 5) (Lr.step s (q, k, b)) := by
  obtain ⟨E1, E2, h1, h2, HO⟩ := HB
  have hcl : (all s).length ≤ 100000 := Nat.le_trans K.len hc
  have H1 := Lib.hid h1
  have H2 := Lib.hid h2
  have HK := Lib.hid K
  by_cases e1 : q = 1
  · subst e1
    have hs : Lr.step s (1, k, b) = add s k b := rfl
    have FL := Lib.hid (fun w' L' (H : Own w0 w' (E1 ++ L')) => LAdd_any k b (h1.lw H) K hc hw hn)
    have FR := Lib.hid (fun w' L' (H : Own w0 w' (E2 ++ L')) => RAdd_any k b (h2.rw H) hcl)
    rw [hs]
    obtain ⟨Z, hZ⟩ : ∃ Z, addE s k b = Z := ⟨_, rfl⟩
    rw [hZ] at FL FR
    have hzz : (Z == Z) = true := by simp
    have hmono := Lib.hid (show n + 1 ≤ n + c + 5 by omega)
    clear h1 h2 K hcl hc hw hn hs hZ
    go_enter Try.func13, Try.ntmps13
    go_upto_region 3 with (first | (refine li_boxAgg 34 rfl rfl rfl HO ?_; clear HO; intro gb wb HO) | (refine li_load 0 3 rfl rfl rfl HO rfl rfl (by kernel_rfl) ?_))
    replace HO : Own w0 wb (E1 ++ (E2 ++ ((gb, CellsP 34 [.int .i64 1, .int .i64 k, .int .i64 b]) :: L))) := HO.perm (by rw [← List.append_assoc, ← List.append_assoc]; exact List.perm_middle.symm)
    refine start_ (n := 14) (S := fun w' => w'.cell? ⟨gb, 1, none⟩ = some (.int .i64 k) ∧ w'.cell? ⟨gb, 2, none⟩ = some (.int .i64 b)) (ds := []) #[false, false, false, false, false, false, false, false, false, false, false, false, false, false] (by kernel_rfl) rfl rfl ⟨(HO.drew.cellsM (t := 34) (xs := [.int .i64 1, .int .i64 k, .int .i64 b]) (by simp) 1 rfl), (HO.drew.cellsM (t := 34) (xs := [.int .i64 1, .int .i64 k, .int .i64 b]) (by simp) 2 rfl)⟩ (fun hHeld => ?_)
    replace HO := HO.drew
    refine pure_ (i := 0) (N := some 11) (v := ?_) (a' := ?_) #[true, false, false, false, false, false, false, false, false, false, false, false, false, false] rfl rfl (by kernel_rfl) (fun _ _ _ h => h) (Or.inl ⟨by rfl, ?_⟩) ?_ ?_
    rotate_left
    · intro w'
      go_simp
      with_reducible rfl
    rotate_left
    · simp only [Act.put, List.setIfInBounds_toArray, List.set_cons_zero, List.set_cons_succ, i64_w, i32_w]
      rfl
    refine pure_ (i := 1) (N := some 12) (v := ?_) (a' := ?_) #[true, true, false, false, false, false, false, false, false, false, false, false, false, false] rfl rfl (by kernel_rfl) (fun _ _ _ h => h) (Or.inl ⟨by rfl, ?_⟩) ?_ ?_
    rotate_left
    · intro w'
      go_simp
      with_reducible rfl
    rotate_left
    · simp only [Act.put, List.setIfInBounds_toArray, List.set_cons_zero, List.set_cons_succ, i64_w, i32_w]
      rfl
    refine pure_ (i := 3) (N := some 14) (v := ?_) (a' := ?_) #[true, true, false, true, false, false, false, false, false, false, false, false, false, false] rfl rfl (by kernel_rfl) (fun _ _ _ h => h) (Or.inl ⟨by rfl, ?_⟩) ?_ ?_
    rotate_left
    · intro w'
      go_simp
      with_reducible rfl
    rotate_left
    · simp only [Act.put, List.setIfInBounds_toArray, List.set_cons_zero, List.set_cons_succ, i64_w, i32_w]
      rfl
    refine pure_ (i := 6) (N := some 17) (v := ?_) (a' := ?_) #[true, true, false, true, false, false, true, false, false, false, false, false, false, false] rfl rfl (by kernel_rfl) (fun _ _ _ h => h) (Or.inl ⟨by rfl, ?_⟩) ?_ ?_
    rotate_left
    · intro w'
      go_simp
      with_reducible rfl
    rotate_left
    · simp only [Act.put, List.setIfInBounds_toArray, List.set_cons_zero, List.set_cons_succ, i64_w, i32_w]
      rfl
    refine pure_ (i := 7) (N := some 18) (v := ?_) (a' := ?_) #[true, true, false, true, false, false, true, true, false, false, false, false, false, false] rfl rfl (by kernel_rfl) (fun _ _ _ h => h) (Or.inl ⟨by rfl, ?_⟩) ?_ ?_
    rotate_left
    · intro w'
      go_simp
      with_reducible rfl
    rotate_left
    · simp only [Act.put, List.setIfInBounds_toArray, List.set_cons_zero, List.set_cons_succ, i64_w, i32_w]
      rfl
    refine pure_ (i := 9) (N := some 20) (v := ?_) (a' := ?_) #[true, true, false, true, false, false, true, true, false, true, false, false, false, false] rfl rfl (by kernel_rfl) (fun _ _ _ h => h) (Or.inl ⟨by rfl, ?_⟩) ?_ ?_
    rotate_left
    · intro w'
      go_simp
      with_reducible rfl
    rotate_left
    · simp only [Act.put, List.setIfInBounds_toArray, List.set_cons_zero, List.set_cons_succ, i64_w, i32_w]
      rfl
    refine take_ (i := 2) (N := some 13) (v := ?_) (a' := ?_) #[true, true, true, true, false, false, true, true, false, true, false, false, false, false] rfl rfl (by kernel_rfl) (fun _ _ _ h => h) (Or.inl ⟨by rfl, ?_⟩) hHeld ?_ ?_
    rotate_left
    · rintro w' ⟨s0, s1⟩
      go_simp
      with_reducible rfl
    rotate_left
    · simp only [Act.put, List.setIfInBounds_toArray, List.set_cons_zero, List.set_cons_succ, i64_w, i32_w]
      rfl
    refine take_ (i := 4) (N := some 15) (v := ?_) (a' := ?_) #[true, true, true, true, true, false, true, true, false, true, false, false, false, false] rfl rfl (by kernel_rfl) (fun _ _ _ h => h) (Or.inl ⟨by rfl, ?_⟩) hHeld ?_ ?_
    rotate_left
    · rintro w' ⟨s0, s1⟩
      go_simp
      with_reducible rfl
    rotate_left
    · simp only [Act.put, List.setIfInBounds_toArray, List.set_cons_zero, List.set_cons_succ, i64_w, i32_w]
      rfl
    refine take_ (i := 8) (N := some 19) (v := ?_) (a' := ?_) #[true, true, true, true, true, false, true, true, true, true, false, false, false, false] rfl rfl (by kernel_rfl) (fun _ _ _ h => h) (Or.inl ⟨by rfl, ?_⟩) hHeld ?_ ?_
    rotate_left
    · rintro w' ⟨s0, s1⟩
      go_simp
      with_reducible rfl
    rotate_left
    · simp only [Act.put, List.setIfInBounds_toArray, List.set_cons_zero, List.set_cons_succ, i64_w, i32_w]
      rfl
    refine take_ (i := 10) (N := some 21) (v := ?_) (a' := ?_) #[true, true, true, true, true, false, true, true, true, true, true, false, false, false] rfl rfl (by kernel_rfl) (fun _ _ _ h => h) (Or.inl ⟨by rfl, ?_⟩) hHeld ?_ ?_
    rotate_left
    · rintro w' ⟨s0, s1⟩
      go_simp
      with_reducible rfl
    rotate_left
    · simp only [Act.put, List.setIfInBounds_toArray, List.set_cons_zero, List.set_cons_succ, i64_w, i32_w]
      rfl
    refine one_ (i := 5) (N := some 16) #[true, true, true, true, true, true, true, true, true, true, true, false, false, false] rfl rfl (by kernel_rfl) (by decide) (fun K hK => ?_)
    refine goes_ Try.func25 (by kernel_rfl) rfl #[.pointer (some ⟨g, 0, none⟩), .int .i64 k, .int .i64 b] (by rfl) rfl rfl (by simp only [List.map_toArray, List.map_cons, List.map_nil]; rfl) ?_
    with_reducible refine (FL.out _ _ HO).mono ?_
    rintro e w1 ⟨rfl, HL1⟩
    refine ⟨_, rfl, ?_⟩
    obtain ⟨E3, h3, HO1⟩ := HL1.open_
    have H3 := Lib.hid h3
    clear HO HL1 h3
    have HO := HO1
    clear HO1
    refine hK.out _ _ ⟨(HO.cellsM (t := 34) (xs := [.int .i64 1, .int .i64 k, .int .i64 b]) (by simp) 1 rfl), (HO.cellsM (t := 34) (xs := [.int .i64 1, .int .i64 k, .int .i64 b]) (by simp) 2 rfl)⟩ (fun hHeld => ?_)
    clear hK K
    refine norm_ (a' := ?_) ?_ ?_
    rotate_left
    · show Act.put _ (some 16) _ = _
      simp only [Act.put, List.setIfInBounds_toArray, List.set_cons_zero, List.set_cons_succ, i64_w, i32_w]
      rfl
    refine one_ (i := 11) (N := some 22) #[true, true, true, true, true, true, true, true, true, true, true, true, false, false] rfl rfl (by kernel_rfl) (by decide) (fun K hK => ?_)
    refine goes_ Try.func29 (by kernel_rfl) rfl #[.pointer (some ⟨m, 0, none⟩), .int .i64 k, .int .i64 b] (by rfl) rfl rfl (by simp only [List.map_toArray, List.map_cons, List.map_nil]; rfl) ?_
    with_reducible refine (FR.out _ _ HO.mid).mono ?_
    rintro e w1 ⟨rfl, HR1⟩
    refine ⟨_, rfl, ?_⟩
    obtain ⟨E4, h4, HO1⟩ := HR1.open_
    have H4 := Lib.hid h4
    clear HO HR1 h4
    have HO := HO1.mid
    clear HO1
    refine hK.out _ _ ⟨(HO.cellsM (t := 34) (xs := [.int .i64 1, .int .i64 k, .int .i64 b]) (by simp) 1 rfl), (HO.cellsM (t := 34) (xs := [.int .i64 1, .int .i64 k, .int .i64 b]) (by simp) 2 rfl)⟩ (fun hHeld => ?_)
    clear hK K
    refine norm_ (a' := ?_) ?_ ?_
    rotate_left
    · show Act.put _ (some 22) _ = _
      simp only [Act.put, List.setIfInBounds_toArray, List.set_cons_zero, List.set_cons_succ, i64_w, i32_w]
      rfl
    refine pure_ (i := 12) (N := some 23) (v := ?_) (a' := ?_) #[true, true, true, true, true, true, true, true, true, true, true, true, true, false] rfl rfl (by kernel_rfl) (fun _ _ _ h => h) (Or.inl ⟨by rfl, ?_⟩) ?_ ?_
    rotate_left
    · intro w'
      go_simp
      with_reducible rfl
    rotate_left
    · simp only [Act.put, List.setIfInBounds_toArray, List.set_cons_zero, List.set_cons_succ, i64_w, i32_w]
      rfl
    refine pure_ (i := 13) (N := some 6) (v := ?_) (a' := ?_) #[true, true, true, true, true, true, true, true, true, true, true, true, true, true] rfl rfl (by kernel_rfl) (fun _ _ _ h => h) (Or.inl ⟨by rfl, ?_⟩) ?_ ?_
    rotate_left
    · intro w'
      go_simp
      with_reducible rfl
    rotate_left
    · simp only [Act.put, List.setIfInBounds_toArray, List.set_cons_zero, List.set_cons_succ, i64_w, i32_w]
      rfl
    refine done_ (by kernel_rfl) ?_
    go_wp2_with (fail)
    go_ret
    refine ⟨rfl, ?_⟩
    have HL : Lw w0 _ (E4 ++ ((gb, CellsP 34 [.int .i64 1, .int .i64 k, .int .i64 b]) :: L)) g (n + c + 5) (add s k b) := (H3.out.lw HO).mono hmono.out
    obtain ⟨E5, h5, HO5⟩ := HL.open_
    exact ⟨E5, E4, h5, H4.out, HO5.sub (List.Sublist.append_left (List.Sublist.append_left (List.sublist_cons_self _ _) _) _)⟩
  have n1 : (q == 1) = false := by simp [e1]
  by_cases e2 : q = 2
  · subst e2
    have hs : Lr.step s (2, k, b) = touched s k := rfl
    have FL := Lib.hid (fun w' L' (H : Own w0 w' (E1 ++ L')) => LTouch_any k (h1.lw H) K hc hw hn)
    have FR := Lib.hid (fun w' L' (H : Own w0 w' (E2 ++ L')) => RTouch_any k (h2.rw H) K hc)
    rw [hs]
    obtain ⟨Z, hZ⟩ : ∃ Z, isIn s k = Z := ⟨_, rfl⟩
    rw [hZ] at FL FR
    have hzz : (Z == Z) = true := by simp
    clear h1 h2 K hcl hc hw hn hs hZ e1 n1
    go_enter Try.func13, Try.ntmps13
    go_upto_region 5 with (first | (refine li_boxAgg 34 rfl rfl rfl HO ?_; clear HO; intro gb wb HO) | (refine li_load 0 3 rfl rfl rfl HO rfl rfl (by kernel_rfl) ?_))
    replace HO : Own w0 wb (E1 ++ (E2 ++ ((gb, CellsP 34 [.int .i64 2, .int .i64 k, .int .i64 b]) :: L))) := HO.perm (by rw [← List.append_assoc, ← List.append_assoc]; exact List.perm_middle.symm)
    refine start_ (n := 10) (S := fun w' => w'.cell? ⟨gb, 1, none⟩ = some (.int .i64 k)) (ds := []) #[false, false, false, false, false, false, false, false, false, false] (by kernel_rfl) rfl rfl ((HO.drew.cellsM (t := 34) (xs := [.int .i64 2, .int .i64 k, .int .i64 b]) (by simp) 1 rfl)) (fun hHeld => ?_)
    replace HO := HO.drew
    refine pure_ (i := 0) (N := some 26) (v := ?_) (a' := ?_) #[true, false, false, false, false, false, false, false, false, false] rfl rfl (by kernel_rfl) (fun _ _ _ h => h) (Or.inl ⟨by rfl, ?_⟩) ?_ ?_
    rotate_left
    · intro w'
      go_simp
      with_reducible rfl
    rotate_left
    · simp only [Act.put, List.setIfInBounds_toArray, List.set_cons_zero, List.set_cons_succ, i64_w, i32_w]
      rfl
    refine pure_ (i := 1) (N := some 27) (v := ?_) (a' := ?_) #[true, true, false, false, false, false, false, false, false, false] rfl rfl (by kernel_rfl) (fun _ _ _ h => h) (Or.inl ⟨by rfl, ?_⟩) ?_ ?_
    rotate_left
    · intro w'
      go_simp
      with_reducible rfl
    rotate_left
    · simp only [Act.put, List.setIfInBounds_toArray, List.set_cons_zero, List.set_cons_succ, i64_w, i32_w]
      rfl
    refine pure_ (i := 4) (N := some 30) (v := ?_) (a' := ?_) #[true, true, false, false, true, false, false, false, false, false] rfl rfl (by kernel_rfl) (fun _ _ _ h => h) (Or.inl ⟨by rfl, ?_⟩) ?_ ?_
    rotate_left
    · intro w'
      go_simp
      with_reducible rfl
    rotate_left
    · simp only [Act.put, List.setIfInBounds_toArray, List.set_cons_zero, List.set_cons_succ, i64_w, i32_w]
      rfl
    refine pure_ (i := 5) (N := some 31) (v := ?_) (a' := ?_) #[true, true, false, false, true, true, false, false, false, false] rfl rfl (by kernel_rfl) (fun _ _ _ h => h) (Or.inl ⟨by rfl, ?_⟩) ?_ ?_
    rotate_left
    · intro w'
      go_simp
      with_reducible rfl
    rotate_left
    · simp only [Act.put, List.setIfInBounds_toArray, List.set_cons_zero, List.set_cons_succ, i64_w, i32_w]
      rfl
    refine take_ (i := 2) (N := some 28) (v := ?_) (a' := ?_) #[true, true, true, false, true, true, false, false, false, false] rfl rfl (by kernel_rfl) (fun _ _ _ h => h) (Or.inl ⟨by rfl, ?_⟩) hHeld ?_ ?_
    rotate_left
    · intro w' s0
      go_simp
      with_reducible rfl
    rotate_left
    · simp only [Act.put, List.setIfInBounds_toArray, List.set_cons_zero, List.set_cons_succ, i64_w, i32_w]
      rfl
    refine take_ (i := 6) (N := some 32) (v := ?_) (a' := ?_) #[true, true, true, false, true, true, true, false, false, false] rfl rfl (by kernel_rfl) (fun _ _ _ h => h) (Or.inl ⟨by rfl, ?_⟩) hHeld ?_ ?_
    rotate_left
    · intro w' s0
      go_simp
      with_reducible rfl
    rotate_left
    · simp only [Act.put, List.setIfInBounds_toArray, List.set_cons_zero, List.set_cons_succ, i64_w, i32_w]
      rfl
    refine one_ (i := 3) (N := some 29) #[true, true, true, true, true, true, true, false, false, false] rfl rfl (by kernel_rfl) (by decide) (fun K hK => ?_)
    refine goes_ Try.func24 (by kernel_rfl) rfl #[.pointer (some ⟨g, 0, none⟩), .int .i64 k] (by rfl) rfl rfl (by simp only [List.map_toArray, List.map_cons, List.map_nil]; rfl) ?_
    with_reducible refine (FL.out _ _ HO).mono ?_
    rintro e w1 ⟨rfl, HL1⟩
    refine ⟨_, rfl, ?_⟩
    obtain ⟨E3, h3, HO1⟩ := HL1.open_
    have H3 := Lib.hid h3
    clear HO HL1 h3
    have HO := HO1
    clear HO1
    refine hK.out _ _ ((HO.cellsM (t := 34) (xs := [.int .i64 2, .int .i64 k, .int .i64 b]) (by simp) 1 rfl)) (fun hHeld => ?_)
    clear hK K
    refine norm_ (a' := ?_) ?_ ?_
    rotate_left
    · show Act.put _ (some 29) _ = _
      simp only [Act.put, List.setIfInBounds_toArray, List.set_cons_zero, List.set_cons_succ, i64_w, i32_w]
      rfl
    refine one_ (i := 7) (N := some 33) #[true, true, true, true, true, true, true, true, false, false] rfl rfl (by kernel_rfl) (by decide) (fun K hK => ?_)
    refine goes_ Try.func30 (by kernel_rfl) rfl #[.pointer (some ⟨m, 0, none⟩), .int .i64 k] (by rfl) rfl rfl (by simp only [List.map_toArray, List.map_cons, List.map_nil]; rfl) ?_
    with_reducible refine (FR.out _ _ HO.mid).mono ?_
    rintro e w1 ⟨rfl, HR1⟩
    refine ⟨_, rfl, ?_⟩
    obtain ⟨E4, h4, HO1⟩ := HR1.open_
    have H4 := Lib.hid h4
    clear HO HR1 h4
    have HO := HO1.mid
    clear HO1
    refine hK.out _ _ ((HO.cellsM (t := 34) (xs := [.int .i64 2, .int .i64 k, .int .i64 b]) (by simp) 1 rfl)) (fun hHeld => ?_)
    clear hK K
    refine norm_ (a' := ?_) ?_ ?_
    rotate_left
    · show Act.put _ (some 33) _ = _
      simp only [Act.put, List.setIfInBounds_toArray, List.set_cons_zero, List.set_cons_succ, i64_w, i32_w]
      rfl
    refine pure_ (i := 8) (N := some 34) (v := ?_) (a' := ?_) #[true, true, true, true, true, true, true, true, true, false] rfl rfl (by kernel_rfl) (fun _ _ _ h => h) (Or.inl ⟨by rfl, ?_⟩) ?_ ?_
    rotate_left
    · intro w'
      go_simp
      with_reducible rfl
    rotate_left
    · simp only [Act.put, List.setIfInBounds_toArray, List.set_cons_zero, List.set_cons_succ, i64_w, i32_w]
      rfl
    refine pure_ (i := 9) (N := some 6) (v := ?_) (a' := ?_) #[true, true, true, true, true, true, true, true, true, true] rfl rfl (by kernel_rfl) (fun _ _ _ h => h) (Or.inl ⟨by rfl, ?_⟩) ?_ ?_
    rotate_left
    · intro w'
      go_simp
      with_reducible rfl
    rotate_left
    · simp only [Act.put, List.setIfInBounds_toArray, List.set_cons_zero, List.set_cons_succ, i64_w, i32_w]
      rfl
    refine done_ (by kernel_rfl) ?_
    go_wp2_with (fail)
    go_ret
    exact ⟨rfl, E3, E4, H3.out, H4.out, HO.sub (List.Sublist.append_left (List.Sublist.append_left (List.sublist_cons_self _ _) _) _)⟩
  have n2 : (q == 2) = false := by simp [e2]
  by_cases e3 : q = 3
  · subst e3
    have hs : Lr.step s (3, k, b) = dropped s k := rfl
    have FL := Lib.hid (fun w' L' (H : Own w0 w' (E1 ++ L')) => LDrop_any k (h1.lw H) K hc hw)
    have FR := Lib.hid (fun w' L' (H : Own w0 w' (E2 ++ L')) => RDrop_any k (h2.rw H) hcl)
    rw [hs]
    obtain ⟨Z, hZ⟩ : ∃ Z, isIn s k = Z := ⟨_, rfl⟩
    rw [hZ] at FL FR
    have hzz : (Z == Z) = true := by simp
    have hmono := Lib.hid (show n ≤ n + c + 5 by omega)
    clear h1 h2 K hcl hc hw hn hs hZ e1 n1 e2 n2
    go_enter Try.func13, Try.ntmps13
    go_upto_region 7 with (first | (refine li_boxAgg 34 rfl rfl rfl HO ?_; clear HO; intro gb wb HO) | (refine li_load 0 3 rfl rfl rfl HO rfl rfl (by kernel_rfl) ?_))
    replace HO : Own w0 wb (E1 ++ (E2 ++ ((gb, CellsP 34 [.int .i64 3, .int .i64 k, .int .i64 b]) :: L))) := HO.perm (by rw [← List.append_assoc, ← List.append_assoc]; exact List.perm_middle.symm)
    refine start_ (n := 10) (S := fun w' => w'.cell? ⟨gb, 1, none⟩ = some (.int .i64 k)) (ds := []) #[false, false, false, false, false, false, false, false, false, false] (by kernel_rfl) rfl rfl ((HO.drew.cellsM (t := 34) (xs := [.int .i64 3, .int .i64 k, .int .i64 b]) (by simp) 1 rfl)) (fun hHeld => ?_)
    replace HO := HO.drew
    refine pure_ (i := 0) (N := some 37) (v := ?_) (a' := ?_) #[true, false, false, false, false, false, false, false, false, false] rfl rfl (by kernel_rfl) (fun _ _ _ h => h) (Or.inl ⟨by rfl, ?_⟩) ?_ ?_
    rotate_left
    · intro w'
      go_simp
      with_reducible rfl
    rotate_left
    · simp only [Act.put, List.setIfInBounds_toArray, List.set_cons_zero, List.set_cons_succ, i64_w, i32_w]
      rfl
    refine pure_ (i := 1) (N := some 38) (v := ?_) (a' := ?_) #[true, true, false, false, false, false, false, false, false, false] rfl rfl (by kernel_rfl) (fun _ _ _ h => h) (Or.inl ⟨by rfl, ?_⟩) ?_ ?_
    rotate_left
    · intro w'
      go_simp
      with_reducible rfl
    rotate_left
    · simp only [Act.put, List.setIfInBounds_toArray, List.set_cons_zero, List.set_cons_succ, i64_w, i32_w]
      rfl
    refine pure_ (i := 4) (N := some 41) (v := ?_) (a' := ?_) #[true, true, false, false, true, false, false, false, false, false] rfl rfl (by kernel_rfl) (fun _ _ _ h => h) (Or.inl ⟨by rfl, ?_⟩) ?_ ?_
    rotate_left
    · intro w'
      go_simp
      with_reducible rfl
    rotate_left
    · simp only [Act.put, List.setIfInBounds_toArray, List.set_cons_zero, List.set_cons_succ, i64_w, i32_w]
      rfl
    refine pure_ (i := 5) (N := some 42) (v := ?_) (a' := ?_) #[true, true, false, false, true, true, false, false, false, false] rfl rfl (by kernel_rfl) (fun _ _ _ h => h) (Or.inl ⟨by rfl, ?_⟩) ?_ ?_
    rotate_left
    · intro w'
      go_simp
      with_reducible rfl
    rotate_left
    · simp only [Act.put, List.setIfInBounds_toArray, List.set_cons_zero, List.set_cons_succ, i64_w, i32_w]
      rfl
    refine take_ (i := 2) (N := some 39) (v := ?_) (a' := ?_) #[true, true, true, false, true, true, false, false, false, false] rfl rfl (by kernel_rfl) (fun _ _ _ h => h) (Or.inl ⟨by rfl, ?_⟩) hHeld ?_ ?_
    rotate_left
    · intro w' s0
      go_simp
      with_reducible rfl
    rotate_left
    · simp only [Act.put, List.setIfInBounds_toArray, List.set_cons_zero, List.set_cons_succ, i64_w, i32_w]
      rfl
    refine take_ (i := 6) (N := some 43) (v := ?_) (a' := ?_) #[true, true, true, false, true, true, true, false, false, false] rfl rfl (by kernel_rfl) (fun _ _ _ h => h) (Or.inl ⟨by rfl, ?_⟩) hHeld ?_ ?_
    rotate_left
    · intro w' s0
      go_simp
      with_reducible rfl
    rotate_left
    · simp only [Act.put, List.setIfInBounds_toArray, List.set_cons_zero, List.set_cons_succ, i64_w, i32_w]
      rfl
    refine one_ (i := 3) (N := some 40) #[true, true, true, true, true, true, true, false, false, false] rfl rfl (by kernel_rfl) (by decide) (fun K hK => ?_)
    refine goes_ Try.func26 (by kernel_rfl) rfl #[.pointer (some ⟨g, 0, none⟩), .int .i64 k] (by rfl) rfl rfl (by simp only [List.map_toArray, List.map_cons, List.map_nil]; rfl) ?_
    with_reducible refine (FL.out _ _ HO).mono ?_
    rintro e w1 ⟨rfl, HL1⟩
    refine ⟨_, rfl, ?_⟩
    obtain ⟨E3, h3, HO1⟩ := HL1.open_
    have H3 := Lib.hid h3
    clear HO HL1 h3
    have HO := HO1
    clear HO1
    refine hK.out _ _ ((HO.cellsM (t := 34) (xs := [.int .i64 3, .int .i64 k, .int .i64 b]) (by simp) 1 rfl)) (fun hHeld => ?_)
    clear hK K
    refine norm_ (a' := ?_) ?_ ?_
    rotate_left
    · show Act.put _ (some 40) _ = _
      simp only [Act.put, List.setIfInBounds_toArray, List.set_cons_zero, List.set_cons_succ, i64_w, i32_w]
      rfl
    refine one_ (i := 7) (N := some 44) #[true, true, true, true, true, true, true, true, false, false] rfl rfl (by kernel_rfl) (by decide) (fun K hK => ?_)
    refine goes_ Try.func27 (by kernel_rfl) rfl #[.pointer (some ⟨m, 0, none⟩), .int .i64 k] (by rfl) rfl rfl (by simp only [List.map_toArray, List.map_cons, List.map_nil]; rfl) ?_
    with_reducible refine (FR.out _ _ HO.mid).mono ?_
    rintro e w1 ⟨rfl, HR1⟩
    refine ⟨_, rfl, ?_⟩
    obtain ⟨E4, h4, HO1⟩ := HR1.open_
    have H4 := Lib.hid h4
    clear HO HR1 h4
    have HO := HO1.mid
    clear HO1
    refine hK.out _ _ ((HO.cellsM (t := 34) (xs := [.int .i64 3, .int .i64 k, .int .i64 b]) (by simp) 1 rfl)) (fun hHeld => ?_)
    clear hK K
    refine norm_ (a' := ?_) ?_ ?_
    rotate_left
    · show Act.put _ (some 44) _ = _
      simp only [Act.put, List.setIfInBounds_toArray, List.set_cons_zero, List.set_cons_succ, i64_w, i32_w]
      rfl
    refine pure_ (i := 8) (N := some 45) (v := ?_) (a' := ?_) #[true, true, true, true, true, true, true, true, true, false] rfl rfl (by kernel_rfl) (fun _ _ _ h => h) (Or.inl ⟨by rfl, ?_⟩) ?_ ?_
    rotate_left
    · intro w'
      go_simp
      with_reducible rfl
    rotate_left
    · simp only [Act.put, List.setIfInBounds_toArray, List.set_cons_zero, List.set_cons_succ, i64_w, i32_w]
      rfl
    refine pure_ (i := 9) (N := some 6) (v := ?_) (a' := ?_) #[true, true, true, true, true, true, true, true, true, true] rfl rfl (by kernel_rfl) (fun _ _ _ h => h) (Or.inl ⟨by rfl, ?_⟩) ?_ ?_
    rotate_left
    · intro w'
      go_simp
      with_reducible rfl
    rotate_left
    · simp only [Act.put, List.setIfInBounds_toArray, List.set_cons_zero, List.set_cons_succ, i64_w, i32_w]
      rfl
    refine done_ (by kernel_rfl) ?_
    go_wp2_with (fail)
    go_ret
    refine ⟨rfl, ?_⟩
    have HL : Lw w0 _ (E4 ++ ((gb, CellsP 34 [.int .i64 3, .int .i64 k, .int .i64 b]) :: L)) g (n + c + 5) (dropped s k) := (H3.out.lw HO).mono hmono.out
    obtain ⟨E5, h5, HO5⟩ := HL.open_
    exact ⟨E5, E4, h5, H4.out, HO5.sub (List.Sublist.append_left (List.Sublist.append_left (List.sublist_cons_self _ _) _) _)⟩
  have n3 : (q == 3) = false := by simp [e3]
  have hs : Lr.step s (q, k, b) = s := by unfold Lr.step; simp [e1, e2, e3]
  rw [hs]
  have hmono := Lib.hid (show n ≤ n + c + 5 by omega)
  clear h1 h2 K hcl hc hw hn hs e1 e2 e3
  go_enter Try.func13, Try.ntmps13
  go_wp2_with (first | (refine li_boxAgg 34 rfl rfl rfl HO ?_; clear HO; intro gb wb HO) | (refine li_load 0 3 rfl rfl rfl HO rfl rfl (by kernel_rfl) ?_))
  go_ret
  obtain ⟨E5, h5, HO5⟩ := ((H1.out.lw HO.tail).mono hmono.out).open_
  exact ⟨rfl, E5, E2, h5, H2.out, HO5⟩
end Go.Proofs.Ytkkgajlddlnghaa

/- What was flushed, and not written since, is there behind any Cut: the plain law. -/
import Derived.Test.YtbgjfdeolckljaaDp
namespace Go.Proofs.Ytbgjfdeolckljaa
set_option linter.unusedVariables false
set_option linter.unusedSimpArgs false
set_option linter.unnecessarySimpa false
open Go.RowKit Go.Proofs.YtbgjfdeolckljaaW.PrintLast
namespace Dk
theorem lastW_snoc_ne {n m : Nat} {s : Sec} (h : m ≠ n) : ∀ l : List (Nat × Sec), lastW (l ++ [(m, s)]) n = lastW l n
  | [] => by simp [lastW, h]
  | x :: l => by
    rw [List.cons_append]
    unfold lastW
    rw [lastW_snoc_ne h l]
theorem lastW_snoc {n : Nat} {s : Sec} (l : List (Nat × Sec)) : lastW (l ++ [(n, s)]) n = some l.length :=
  lastW_some (x := (n, s)) (by simp) rfl fun j y hj hy => by
    have := (List.getElem?_eq_some_iff.1 hy).1
    simp at this; omega
theorem told_wrote_ne {D : Disk} {m n g c : Nat} {bs : List Byte} (h : m ≠ n) : toldS (wrote D m g c bs) n = toldS D n := by
  unfold toldS
  simp only [wrote]
  rw [lastW_snoc_ne h]
  cases hl : lastW D.waits n with
  | none => rfl
  | some i =>
    have := lastW_lt hl
    simp only []
    rw [List.getD_eq_getElem?_getD, List.getD_eq_getElem?_getD, List.getElem?_append_left this]
theorem fl_get {n : Nat} : ∀ (l : List (Nat × Sec)) (ls : List Sec), n < ls.length → (fl ls l).getD n zero = match lastW l n with | some i => (l.getD i (0, zero)).2 | none => ls.getD n zero
  | [], ls, h => rfl
  | x :: l, ls, h => by
    have ih := fl_get l (ls.set x.1 x.2) (by simpa using h)
    show (fl (ls.set x.1 x.2) l).getD n zero = _
    rw [ih]
    cases hl : lastW l n with
    | some i =>
      have e : lastW (x :: l) n = some (i + 1) := by rw [lastW, hl]
      rw [e]; simp
    | none =>
      by_cases e : x.1 = n
      · have e1 : lastW (x :: l) n = some 0 := by rw [lastW, hl]; simp [e]
        rw [e1]
        simp [List.getD_eq_getElem?_getD, e, h]
      · have e1 : lastW (x :: l) n = none := by rw [lastW, hl]; simp [e]
        rw [e1]
        simp only []
        rw [List.getD_eq_getElem?_getD, List.getD_eq_getElem?_getD, List.getElem?_set_ne e]
theorem told_flushed {D : Disk} {n : Nat} (h : n < D.lasts.length) : toldS (flushed D) n = toldS D n := by
  unfold toldS
  simp only [flushed, lastW]
  exact fl_get D.waits D.lasts h
theorem lastW_none_iff {n : Nat} {l : List (Nat × Sec)} (h : lastW l n = none) : ∀ x ∈ l, x.1 ≠ n := by
  induction l with
  | nil => simp
  | cons y l ih =>
    unfold lastW at h
    cases hl : lastW l n with
    | some i => rw [hl] at h; cases h
    | none =>
      rw [hl] at h
      simp only [ite_eq_right_iff, reduceCtorEq, imp_false] at h
      intro x hx
      rcases List.mem_cons.1 hx with rfl | hx
      · exact h
      · exact ih hl x hx
theorem lastW_none_of {n : Nat} {l : List (Nat × Sec)} (h : ∀ x ∈ l, x.1 ≠ n) : lastW l n = none := lastW_none fun j x hx => h x (List.mem_of_getElem? hx)
theorem cutL_fst (keep : List Bool) (t : Int) (n : Nat) : ∀ (l : List (Nat × Sec)) (i : Nat), (∀ x ∈ l, x.1 ≠ n) → ∀ x ∈ cutL keep t i l, x.1 ≠ n
  | [], _, _, x, hx => by simp [cutL] at hx
  | y :: l, i, h, x, hx => by
    simp only [cutL] at hx
    rcases List.mem_append.1 hx with hx | hx
    · have hy := h y (List.mem_cons_self ..)
      split at hx
      · simp at hx; rw [hx]; exact hy
      · split at hx
        · simp at hx; rw [hx]; exact hy
        · simp at hx
    · exact cutL_fst keep t n l (i + 1) (fun z hz => h z (List.mem_cons_of_mem _ hz)) x hx
theorem told_cut {D : Disk} {n : Nat} (keep : List Bool) (t : Int) (hn : n < D.lasts.length) (h : lastW D.waits n = none) (off : Bool) : toldS { cut D keep t with off := off } n = toldS D n := by
  unfold toldS
  simp only [cut, lastW]
  rw [fl_get _ _ hn, lastW_none_of (cutL_fst keep t n D.waits 0 (lastW_none_iff h)), h]
/-- A sector that is whole, of one byte all over. -/
def Good (s : Sec) (y : Int) : Prop := s.torn = false ∧ ∃ b : Byte, y = (b.toNat : Int) ∧ (match s.blk with | none => b = 0#8 | some (_, _, bs) => bs = List.replicate 16 b)
theorem good_bytes {D : Disk} {n : Nat} {y : Int} (hs : D.size = 16) (h : Good (toldS D n) y) : ∃ b : Byte, y = (b.toNat : Int) ∧ bytes D n = List.replicate 16 b := by
  obtain ⟨_, b, hy, hb⟩ := h
  refine ⟨b, hy, ?_⟩
  unfold bytes
  cases hk : (toldS D n).blk with
  | none => rw [hk] at hb; simp only at hb; rw [hb, hs]
  | some p => obtain ⟨g, c, bs⟩ := p; rw [hk] at hb; exact hb
/-- What is known of each sector. -/
structure Inv (D : Disk) (want : List Int) : Prop where
  ok : Ok D
  six : D.lasts.length = 6
  size : D.size = 16
  off : D.off = false
  len : want.length = 6
  each : ∀ (n : Nat) (x : Int), want[n]? = some x → (0 ≤ x ∧ x < 1000 ∧ lastW D.waits n = none ∧ Good (toldS D n) x) ∨ (1000 ≤ x ∧ x < 2000 ∧ Good (toldS D n) (x - 1000))
theorem inv_new : Inv ⟨16, List.replicate 6 zero, [], false⟩ (List.replicate 6 0) := by
  refine ⟨new_ok 6 16 (by decide) (by decide) (by decide) (by decide), by simp, rfl, rfl, by simp, fun n x hx => .inl ?_⟩
  rw [List.getElem?_replicate] at hx
  split at hx
  · rename_i hn
    injection hx with hx
    subst hx
    refine ⟨by decide, by decide, rfl, ?_⟩
    have : toldS ⟨16, List.replicate 6 zero, [], false⟩ n = zero := by
      unfold toldS
      simp only [lastW]
      rw [List.getD_eq_getElem?_getD, List.getElem?_replicate, if_pos hn]; rfl
    rw [this]
    exact ⟨rfl, 0#8, by simp, rfl⟩
  · cases hx
theorem inv_wrote {D : Disk} {want : List Int} {n g c : Nat} (h : Inv D want) (hn : n < 6) (b : Byte) (hw : D.waits.length < 100000) : Inv (wrote D n g c (List.replicate 16 b)) (want.set n (1000 + (b.toNat : Int))) := by
  refine ⟨wrote_ok h.ok (by rw [h.six]; exact hn) (by rw [h.size]; simp) hw, h.six, h.size, h.off, by rw [List.length_set]; exact h.len, fun k x hx => ?_⟩
  rw [List.getElem?_set] at hx
  by_cases e : n = k
  · subst e
    rw [if_pos rfl] at hx
    split at hx
    · injection hx with hx
      have hb := b.isLt
      refine .inr ⟨by omega, by omega, ?_⟩
      have ht : toldS (wrote D n g c (List.replicate 16 b)) n = ⟨some (g, c, List.replicate 16 b), false, false⟩ := by
        unfold toldS
        simp only [wrote]
        rw [lastW_snoc]
        simp
      rw [ht]
      exact ⟨rfl, b, by omega, rfl⟩
    · cases hx
  · rw [if_neg e] at hx
    rcases h.each k x hx with ⟨h0, h1, h2, h3⟩ | ⟨h1, h2, h3⟩
    · exact .inl ⟨h0, h1, by simp only [wrote]; rw [lastW_snoc_ne e]; exact h2, by rw [told_wrote_ne e]; exact h3⟩
    · exact .inr ⟨h1, h2, by rw [told_wrote_ne e]; exact h3⟩
def dec (x : Int) : Int := if 1000 ≤ x then x - 1000 else x
theorem inv_flushed {D : Disk} {want : List Int} (h : Inv D want) : Inv (flushed D) (want.map dec) := by
  refine ⟨flushed_ok h.ok, by rw [← h.six]; exact fl_len _ _, h.size, h.off, by rw [List.length_map]; exact h.len, fun k x hx => .inl ?_⟩
  rw [List.getElem?_map] at hx
  obtain ⟨y, hy, rfl⟩ := Option.map_eq_some_iff.1 hx
  have hk : k < D.lasts.length := by rw [h.six, ← h.len]; exact (List.getElem?_eq_some_iff.1 hy).1
  unfold dec
  rcases h.each k y hy with ⟨h0, h1, h2, h3⟩ | ⟨h1, h2, h3⟩
  · rw [if_neg (by omega)]
    exact ⟨h0, h1, rfl, by rw [told_flushed hk]; exact h3⟩
  · rw [if_pos h1]
    exact ⟨by omega, by omega, rfl, by rw [told_flushed hk]; exact h3⟩
def wv (want : List Int) : List Value := want.map fun x => .int .i64 x
theorem wv_len (w : List Int) : (wv w).length = w.length := by simp [wv]
theorem wv_get {w : List Int} {i : Nat} {x : Int} (h : w[i]? = some x) : (wv w)[i]? = some (.int .i64 x) := by simp [wv, h]
theorem wv_set (w : List Int) (i : Nat) (x : Int) : (wv w).set i (.int .i64 x) = wv (w.set i x) := by simp [wv, List.map_set]
/-- So many of them have been looked at. -/
def decs (w : List Int) (j : Nat) : List Int := (w.take j).map dec ++ w.drop j
theorem decs_get {w : List Int} {j : Nat} {x : Int} (h : w[j]? = some x) : (decs w j)[j]? = some x := by
  have hl := (List.getElem?_eq_some_iff.1 h).1
  unfold decs
  rw [List.getElem?_append_right (by simp; omega), List.getElem?_drop]
  simp only [List.length_map, List.length_take]
  rw [show j + (j - min j w.length) = j by omega]
  exact h
theorem decs_set {w : List Int} {j : Nat} {x : Int} (h : w[j]? = some x) : (decs w j).set j (dec x) = decs w (j + 1) := by
  have hl := (List.getElem?_eq_some_iff.1 h).1
  unfold decs
  have hlen : ((w.take j).map dec).length = j := by simp; omega
  rw [List.set_append_right _ _ (by omega), hlen, Nat.sub_self, List.take_add_one, h, List.map_append, List.append_assoc]
  congr 1
  rw [List.drop_eq_getElem_cons hl]; rfl
theorem decs_same {w : List Int} {j : Nat} {x : Int} (h : w[j]? = some x) (hx : dec x = x) : decs w (j + 1) = decs w j := by
  rw [← decs_set h, hx]
  have := decs_get h
  exact List.ext_getElem? fun i => by
    rw [List.getElem?_set]
    by_cases e : j = i
    · subst e
      rw [if_pos rfl, this, if_pos (List.getElem?_eq_some_iff.1 this).1]
    · rw [if_neg e]
theorem decs_all (w : List Int) (j : Nat) (h : w.length ≤ j) : decs w j = w.map dec := by
  unfold decs
  rw [List.take_of_length_le h, List.drop_of_length_le h, List.append_nil]
end Dk
end Go.Proofs.Ytbgjfdeolckljaa

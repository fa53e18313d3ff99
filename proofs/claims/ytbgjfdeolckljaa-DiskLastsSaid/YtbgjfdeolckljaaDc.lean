/- Rows of structs as lists; what a sector is told as. -/
import Derived.Test.YtbgjfdeolckljaaDb
namespace Go.Proofs.Ytbgjfdeolckljaa
set_option linter.unusedVariables false
set_option linter.unusedSimpArgs false
set_option linter.unnecessarySimpa false
open Go.RowKit Go.Proofs.YtbgjfdeolckljaaW.PrintLast
section
variable {α : Type} {f : α → List Value} {k : Nat}
theorem flat_len (hf : ∀ x, (f x).length = k) : ∀ l : List α, (l.flatMap f).length = l.length * k
  | [] => by simp
  | x :: l => by
    rw [List.flatMap_cons, List.length_append, hf, flat_len hf l, List.length_cons, Nat.succ_mul]; omega
theorem flat_get (hf : ∀ x, (f x).length = k) : ∀ (l : List α) (i : Nat) (x : α) (j : Nat), l[i]? = some x → j < k → (l.flatMap f)[i * k + j]? = (f x)[j]?
  | [], i, x, j, h, _ => by simp at h
  | y :: l, 0, x, j, h, hj => by
    simp at h
    subst h
    rw [List.flatMap_cons, Nat.zero_mul, Nat.zero_add, List.getElem?_append_left (by rw [hf]; exact hj)]
  | y :: l, i + 1, x, j, h, hj => by
    rw [List.flatMap_cons, List.getElem?_append_right (by rw [hf, Nat.succ_mul]; omega), hf]
    rw [show (i + 1) * k + j - k = i * k + j by rw [Nat.succ_mul]; omega]
    exact flat_get hf l i x j (by simpa using h) hj
theorem flat_set (hf : ∀ x, (f x).length = k) : ∀ (l : List α) (i : Nat) (y : α), i < l.length → splice (l.flatMap f) (i * k) (f y) = (l.set i y).flatMap f
  | [], i, y, h => by simp at h
  | x :: l, 0, y, _ => by
    unfold splice
    rw [List.flatMap_cons, Nat.zero_mul, List.take_zero, Nat.zero_add, hf y, List.set_cons_zero, List.flatMap_cons]
    rw [List.drop_append_of_le_length (by rw [hf]; omega), List.drop_of_length_le (by rw [hf]; omega)]
    simp
  | x :: l, i + 1, y, h => by
    have ih := flat_set hf l i y (by simpa using h)
    unfold splice at ih ⊢
    rw [List.flatMap_cons, List.set_cons_succ, List.flatMap_cons, ← ih, hf y]
    have e1 : (f x ++ l.flatMap f).take ((i + 1) * k) = f x ++ (l.flatMap f).take (i * k) := by
      rw [List.take_append, List.take_of_length_le (by rw [hf, Nat.succ_mul]; omega), hf]
      congr 2
      rw [Nat.succ_mul]; omega
    have e2 : (f x ++ l.flatMap f).drop ((i + 1) * k + k) = (l.flatMap f).drop (i * k + k) := by
      rw [List.drop_append, List.drop_of_length_le (by rw [hf, Nat.succ_mul]; omega), hf, List.nil_append]
      congr 1
      rw [Nat.succ_mul]; omega
    rw [e1, e2, List.append_assoc]
end
namespace Dk
theorem sec_len (s : Sec) : s.cells.length = 3 := rfl
theorem wr_len (x : Nat × Sec) : (wcells x).length = 4 := rfl
/-- The last write of a sector that waits. -/
def lastW : List (Nat × Sec) → Nat → Option Nat
  | [], _ => none
  | x :: l, n => match lastW l n with | some i => some (i + 1) | none => if x.1 = n then some 0 else none
theorem lastW_lt {n : Nat} : ∀ {l : List (Nat × Sec)} {i : Nat}, lastW l n = some i → i < l.length
  | [], i, h => by cases h
  | x :: l, i, h => by
    unfold lastW at h
    cases hl : lastW l n with
    | some j =>
      rw [hl] at h
      injection h with h
      have := lastW_lt hl
      simp; omega
    | none =>
      rw [hl] at h
      simp at h
      simp; omega
theorem lastW_none {n : Nat} : ∀ {l : List (Nat × Sec)}, (∀ (j : Nat) x, l[j]? = some x → x.1 ≠ n) → lastW l n = none
  | [], _ => rfl
  | x :: l, h => by
    unfold lastW
    rw [lastW_none (l := l) (fun j y hy => h (j + 1) y (by simpa using hy))]
    simp [h 0 x rfl]
theorem lastW_some {n : Nat} : ∀ {l : List (Nat × Sec)} {i : Nat} {x : Nat × Sec}, l[i]? = some x → x.1 = n → (∀ (j : Nat) y, i < j → l[j]? = some y → y.1 ≠ n) → lastW l n = some i
  | [], i, x, h, _, _ => by simp at h
  | y :: l, 0, x, h, hx, hn => by
    simp at h
    subst h
    unfold lastW
    rw [lastW_none (l := l) (fun j z hz => hn (j + 1) z (by omega) (by simpa using hz))]
    simp [hx]
  | y :: l, i + 1, x, h, hx, hn => by
    unfold lastW
    rw [lastW_some (l := l) (i := i) (by simpa using h) hx (fun j z hj hz => hn (j + 1) z (by omega) (by simpa using hz))]
/-- What a sector is told as. -/
def toldS (D : Disk) (n : Nat) : Sec := match lastW D.waits n with | some i => (D.waits.getD i (0, zero)).2 | none => D.lasts.getD n zero
/-- Where that stands. -/
def At (gl : Nat) (W : List Ent) (D : Disk) (n b off : Nat) : Prop :=
  (∃ i c, lastW D.waits n = some i ∧ W = [(b, RowP 67 4 c (D.waits.flatMap wcells))] ∧ off = i * 4 + 1) ∨ (lastW D.waits n = none ∧ b = gl ∧ off = n * 3)
end Dk
set_option maxRecDepth 20000 in
set_option maxHeartbeats 8000000 in
theorem told_any {w0 w : World} {L W : List Ent} {g gl cl : Nat} {wv : Value} {D : Dk.Disk} (n : Nat) (hW : Dk.WP wv D.waits W) (HO : Own w0 w ((g, CellsP 62 [.int .i64 (D.size : Int), .slice (some ⟨gl, 0, none⟩) D.lasts.length cl, wv, .bool D.off]) :: (gl, RowP 65 3 cl (D.lasts.flatMap Dk.Sec.cells)) :: (W ++ L))) (hn : n < D.lasts.length) (h1 : D.lasts.length ≤ 65536) (h2 : D.waits.length ≤ 1000000) :
    Calls Try.prog 25 #[.pointer (some ⟨g, 0, none⟩), .int .i64 (n : Int)] w fun e w' => ∃ b off, e = .returned (.pointer (some ⟨b, off, none⟩)) ∧ Dk.At gl W D n b off ∧ (∀ (j : Nat) v, (Dk.toldS D n).cells[j]? = some v → w.cell? ⟨b, off + j, none⟩ = some v) ∧ w = w' := by
  obtain ⟨M, hM⟩ : ∃ M, D.waits.length = M := ⟨_, rfl⟩
  obtain ⟨N, hN⟩ : ∃ N, D.lasts.length = N := ⟨_, rfl⟩
  have HN := Lib.hid hN
  have HM := Lib.hid hM
  have HW := Lib.hid hW
  have hln := hW.len
  obtain ⟨ao, c, rfl⟩ := hln
  rw [hN] at hn h1
  rw [hM] at h2
  have HO1 := HO
  rw [hN, hM] at HO1
  clear hW hN hM HO
  have HO := HO1
  clear HO1
  have hwm : IntKind.i64.wrap ((M : Int) - 1) = (M : Int) - 1 := IntWalk.i64_in _ (by omega)
  go_enter Try.func25, Try.ntmps25
  go_wp2_with (refine li_load 0 60 rfl rfl rfl HO rfl rfl (by kernel_rfl) ?_)
  go_loopg [5] M (fun k x wr => ∃ m : Nat, x = .int .i64 ((m : Int) - 1) ∧ m ≤ M ∧ k = m ∧ (∀ (j : Nat) y, m ≤ j → D.waits[j]? = some y → y.1 ≠ n) ∧ wr = w)
  case atStart => exact ⟨M, rfl, by omega, rfl, fun j y hj hy => by
    have := (List.getElem?_eq_some_iff.1 hy).1
    have := HM.out
    omega, rfl⟩
  case round =>
    obtain ⟨m, rfl, m1, hk, hno, rfl⟩ := hrel
    match m, m1, hk, hno with
    | 0, m1, hk, hno =>
      have hd : decide ((0 : Int) ≤ ((0 : Nat) : Int) - 1) = false := by decide
      have hl := Dk.lastW_none (l := D.waits) (n := n) (fun j y hy => hno j y (by omega) hy)
      have hb0 : (0 : Int) ≤ (n : Int) := by omega
      have hb1 : (n : Int) < (N : Int) := by omega
      obtain ⟨s, hs⟩ : ∃ s, D.lasts[n]? = some s := ⟨_, List.getElem?_eq_getElem (by rw [HN.out]; exact hn)⟩
      have ht : Dk.toldS D n = s := by
        unfold Dk.toldS
        rw [hl, List.getD_eq_getElem?_getD, hs]; rfl
      have HL := Lib.hid hl
      have HT := Lib.hid ht
      have HS := Lib.hid hs
      clear hl ht hs hno
      go_wp2_with (refine li_load 0 59 rfl rfl rfl HO rfl rfl (by kernel_rfl) ?_)
      go_ret
      refine ⟨gl, n * 3, rfl, .inr ⟨HL.out, rfl, rfl⟩, fun j v hv => ?_, rfl⟩
      rw [HT.out] at hv
      have hj : j < 3 := by have := (List.getElem?_eq_some_iff.1 hv).1; simpa [Dk.Sec.cells] using this
      exact HO.rowCell 1 rfl (n * 3 + j) (by rw [flat_get Dk.sec_len _ _ _ _ HS.out hj]; exact hv)
    | m + 1, m1, hk, hno =>
      have hm1 : (((m + 1 : Nat) : Int) - 1) = (m : Int) := by omega
      rw [hm1]
      have hd : decide ((0 : Int) ≤ (m : Int)) = true := decide_eq_true (by omega)
      have hw1 : IntKind.i64.wrap ((m : Int) - 1) = (m : Int) - 1 := IntWalk.i64_in _ (by omega)
      have hb0 : (0 : Int) ≤ (m : Int) := by omega
      have hb1 : (m : Int) < (M : Int) := by omega
      obtain ⟨y, hy⟩ : ∃ y, D.waits[m]? = some y := ⟨_, List.getElem?_eq_getElem (by rw [HM.out]; omega)⟩
      have hWr : ∃ gw, (ao = some ⟨gw, 0, none⟩) ∧ W = [(gw, RowP 67 4 c (D.waits.flatMap Dk.wcells))] := by
        obtain ⟨W', hW'⟩ : ∃ W', W' = W := ⟨_, rfl⟩
        have h0 := HW.out
        obtain ⟨l, hl⟩ : ∃ l, D.waits = l := ⟨_, rfl⟩
        rw [hl] at h0 hy ⊢
        cases h0 with
        | nil h => simp at hy
        | row _ gw c' h _ =>
          injection h with e1 e2 e3
          subst e1 e3
          exact ⟨gw, rfl, rfl⟩
      obtain ⟨gw, rfl, rfl⟩ := hWr
      have hcell : ∀ (j : Nat) v, (Dk.wcells y)[j]? = some v → wr.cell? ⟨gw, m * 4 + j, none⟩ = some v := fun j v hv => by
        have hj : j < 4 := by have := (List.getElem?_eq_some_iff.1 hv).1; simpa [Dk.wcells, Dk.Sec.cells] using this
        exact HO.rowCell 2 rfl (m * 4 + j) (by rw [flat_get Dk.wr_len _ _ _ _ hy hj]; exact hv)
      have hc0 : wr.cell? ⟨gw, m * 4, none⟩ = some (.int .i64 (y.1 : Int)) := hcell 0 _ rfl
      by_cases e : y.1 = n
      · have he : ((y.1 : Int) == (n : Int)) = true := by simp [e]
        have hl := Dk.lastW_some hy e (fun j z hj hz => hno j z (by omega) hz)
        have ht : Dk.toldS D n = y.2 := by
          unfold Dk.toldS
          rw [hl]
          simp only []
          rw [List.getD_eq_getElem?_getD, hy]; rfl
        have HL := Lib.hid hl
        have HT := Lib.hid ht
        have HC := Lib.hid hcell
        clear hl ht hno hcell e hy
        go_wp2_with (first | (refine li_load 0 60 rfl rfl rfl HO rfl rfl (by kernel_rfl) ?_) | (refine li_loadAt 3 rfl rfl rfl hc0 (by kernel_rfl) ?_))
        go_ret
        refine ⟨gw, m * 4 + 1, rfl, .inl ⟨m, c, HL.out, rfl, rfl⟩, fun j v hv => ?_, rfl⟩
        rw [HT.out] at hv
        rw [show m * 4 + 1 + j = m * 4 + (j + 1) by omega]
        exact HC.out (j + 1) v (by simpa [Dk.wcells] using hv)
      · have he : ((y.1 : Int) == (n : Int)) = false := by simp; omega
        have hno2 : ∀ (j : Nat) z, m ≤ j → D.waits[j]? = some z → z.1 ≠ n := fun j z hj hz => by
          rcases Nat.lt_or_ge m j with h | h
          · exact hno j z (by omega) hz
          · obtain rfl : j = m := by omega
            rw [hy] at hz
            injection hz with hz
            subst hz; exact e
        have HNO := Lib.hid hno2
        clear hno hno2 e hy hcell
        go_wp2_with (first | (refine li_load 0 60 rfl rfl rfl HO rfl rfl (by kernel_rfl) ?_) | (refine li_loadAt 3 rfl rfl rfl hc0 (by kernel_rfl) ?_))
        go_roundg m
        case measure => omega
        case rel => exact ⟨m, rfl, by omega, rfl, HNO.out, rfl⟩
end Go.Proofs.Ytbgjfdeolckljaa

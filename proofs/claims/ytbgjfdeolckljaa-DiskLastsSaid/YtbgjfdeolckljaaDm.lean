/- A bit of a sector turned: which blocks there are then. Plain. -/
import Derived.Test.YtbgjfdeolckljaaDl
namespace Go.Proofs.Ytbgjfdeolckljaa
set_option linter.unusedVariables false
set_option linter.unusedSimpArgs false
set_option linter.unnecessarySimpa false
open Go.RowKit
section
variable {α β : Type} {f : α → List β}
theorem flat_apart [DecidableEq β] : ∀ {l : List α} {i j : Nat} {a b : α} {p : β}, (l.flatMap f).Nodup → l[i]? = some a → l[j]? = some b → p ∈ f a → p ∈ f b → i = j
  | [], i, j, a, b, p, _, hi, _, _, _ => by simp at hi
  | x :: l, 0, 0, a, b, p, _, _, _, _, _ => rfl
  | x :: l, 0, j + 1, a, b, p, hn, hi, hj, ha, hb => by
    rw [List.flatMap_cons, List.nodup_append] at hn
    simp at hi hj
    subst hi
    exact absurd rfl (hn.2.2 p ha p (List.mem_flatMap.2 ⟨b, List.mem_of_getElem? hj, hb⟩))
  | x :: l, i + 1, 0, a, b, p, hn, hi, hj, ha, hb => by
    rw [List.flatMap_cons, List.nodup_append] at hn
    simp at hi hj
    subst hj
    exact absurd rfl (hn.2.2 p hb p (List.mem_flatMap.2 ⟨a, List.mem_of_getElem? hi, ha⟩))
  | x :: l, i + 1, j + 1, a, b, p, hn, hi, hj, ha, hb => by
    rw [List.flatMap_cons, List.nodup_append] at hn
    have := flat_apart (l := l) (i := i) (j := j) hn.2.1 (by simpa using hi) (by simpa using hj) ha hb
    omega
theorem flat_set_same : ∀ (l : List α) (i : Nat) (a y : α), l[i]? = some a → f y = f a → (l.set i y).flatMap f = l.flatMap f
  | [], _, _, _, h, _ => by simp at h
  | x :: l, 0, a, y, h, e => by
    simp at h
    subst h
    simp [e]
  | x :: l, i + 1, a, y, h, e => by
    rw [List.set_cons_succ, List.flatMap_cons, List.flatMap_cons, flat_set_same l i a y (by simpa using h) e]
end
namespace Dk
/-- All sectors: those that last, and those that wait. -/
def alls (D : Disk) : List Sec := D.lasts ++ D.waits.map (·.2)
theorem pool_alls (D : Disk) : pool D = (alls D).flatMap Sec.ents := by
  unfold pool alls
  rw [List.flatMap_append, List.flatMap_map]
def idx (D : Disk) (n : Nat) : Nat := match lastW D.waits n with | some i => D.lasts.length + i | none => n
theorem idx_get {D : Disk} {n : Nat} (hn : n < D.lasts.length) : (alls D)[idx D n]? = some (toldS D n) := by
  unfold idx toldS alls
  cases hl : lastW D.waits n with
  | none =>
    simp only []
    rw [List.getElem?_append_left hn, List.getD_eq_getElem?_getD, List.getElem?_eq_getElem hn]; rfl
  | some i =>
    have hi := lastW_lt hl
    simp only []
    rw [List.getElem?_append_right (by omega), Nat.add_sub_cancel_left, List.getElem?_map, List.getD_eq_getElem?_getD, List.getElem?_eq_getElem hi]; rfl
/-- A sector put in another's place, where it is told. -/
def putS (D : Disk) (n : Nat) (s : Sec) : Disk := match lastW D.waits n with
  | some i => { D with waits := D.waits.set i (n, s) }
  | none => { D with lasts := D.lasts.set n s }
theorem putS_alls {D : Disk} {n : Nat} (hn : n < D.lasts.length) (s : Sec) : alls (putS D n s) = (alls D).set (idx D n) s := by
  unfold putS idx alls
  cases hl : lastW D.waits n with
  | none =>
    simp only []
    rw [List.set_append_left _ _ hn]
  | some i =>
    simp only []
    rw [List.set_append_right _ _ (by omega), Nat.add_sub_cancel_left, List.map_set]
theorem putS_ids {D : Disk} {n g c : Nat} {bs bs' : List Byte} {t t' : Bool} (hn : n < D.lasts.length) (h : (toldS D n).blk = some (g, c, bs)) : ((pool (putS D n ⟨some (g, c, bs'), t, t'⟩)).map (·.1)) = (pool D).map (·.1) := by
  rw [pool_alls, pool_alls, putS_alls hn, ids_flat, ids_flat]
  refine flat_set_same _ _ _ _ (idx_get hn) ?_
  unfold secId Sec.ents
  rw [h]; rfl
theorem putS_mem {D : Disk} {n g c : Nat} {bs bs' : List Byte} {t t' : Bool} (hn : n < D.lasts.length) (h : (toldS D n).blk = some (g, c, bs)) (hd : ((pool D).map (·.1)).Nodup) :
    ∀ x ∈ pool (putS D n ⟨some (g, c, bs'), t, t'⟩), x = (g, RowP 5 1 c (bys bs')) ∨ (x ∈ pool D ∧ x.1 ≠ g) := by
  intro x hx
  rw [pool_alls, putS_alls hn] at hx
  rw [pool_alls, ids_flat] at hd
  obtain ⟨s, hs, hxs⟩ := List.mem_flatMap.1 hx
  obtain ⟨i, hi⟩ := List.getElem?_of_mem hs
  rw [List.getElem?_set] at hi
  by_cases e : idx D n = i
  · rw [if_pos e] at hi
    split at hi
    · injection hi with hi
      subst hi
      simp [Sec.ents] at hxs
      exact .inl hxs
    · cases hi
  · rw [if_neg e] at hi
    right
    refine ⟨by rw [pool_alls]; exact List.mem_flatMap.2 ⟨s, List.mem_of_getElem? hi, hxs⟩, fun e2 => e ?_⟩
    refine flat_apart (p := g) hd (idx_get hn) hi ?_ ?_
    · unfold secId Sec.ents; rw [h]; simp
    · unfold secId; rw [← e2]; exact List.mem_map.2 ⟨x, hxs, rfl⟩
end Dk
end Go.Proofs.Ytbgjfdeolckljaa

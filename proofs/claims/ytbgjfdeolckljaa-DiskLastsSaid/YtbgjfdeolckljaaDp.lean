/- A sector put in another's place: what is told then. Plain. -/
import Derived.Test.YtbgjfdeolckljaaDo
namespace Go.Proofs.Ytbgjfdeolckljaa
set_option linter.unusedVariables false
set_option linter.unusedSimpArgs false
set_option linter.unnecessarySimpa false
open Go.RowKit
namespace Dk
theorem lastW_set {n i : Nat} {s : Sec} : ∀ {l : List (Nat × Sec)} (i : Nat) (s s0 : Sec), l[i]? = some (n, s0) → ∀ m, lastW (l.set i (n, s)) m = lastW l m
  | [], i, s, s0, h, m => by simp at h
  | x :: l, 0, s, s0, h, m => by
    simp at h
    subst h
    rfl
  | x :: l, i + 1, s, s0, h, m => by
    rw [List.set_cons_succ]
    unfold lastW
    rw [lastW_set (n := n) (i := i) (s := s) (l := l) i s s0 (by simpa using h) m]
theorem toldS_putS {D : Disk} {n : Nat} (hn : n < D.lasts.length) (s : Sec) : toldS (putS D n s) n = s := by
  unfold putS toldS
  cases hl : lastW D.waits n with
  | none =>
    simp only [hl]
    rw [List.getD_eq_getElem?_getD, List.getElem?_set_self hn]; rfl
  | some i =>
    obtain ⟨s0, hs⟩ := lastW_get hl
    have hi := lastW_lt hl
    simp only []
    rw [lastW_set (n := n) (i := i) (s := s) i s s0 hs n, hl]
    simp only []
    rw [List.getD_eq_getElem?_getD, List.getElem?_set_self hi]; rfl
theorem putS_ok {D : Disk} (h : Ok D) {n : Nat} {s : Sec} (hn : n < D.lasts.length) (hs : ∀ g c b, s.blk = some (g, c, b) → b.length = D.size) : Ok (putS D n s) := by
  obtain ⟨e1, e2, e3, e4⟩ := putS_lens (D := D) (n := n) (s := s)
  refine ⟨by rw [e1]; exact h.n1, by rw [e1]; exact h.n2, by rw [e3]; exact h.s1, by rw [e3]; exact h.s2, ?_, by rw [e2]; exact h.few, ?_⟩
  · rw [e1]
    intro x hx
    unfold putS at hx
    cases hl : lastW D.waits n with
    | none => rw [hl] at hx; exact h.wn x hx
    | some i =>
      rw [hl] at hx
      rcases List.mem_or_eq_of_mem_set hx with hx | rfl
      · exact h.wn x hx
      · exact hn
  · rw [e3]
    intro s' g c b hs' hb
    unfold putS at hs'
    cases hl : lastW D.waits n with
    | none =>
      rw [hl] at hs'
      rcases hs' with hs' | ⟨m, hs'⟩
      · rcases List.mem_or_eq_of_mem_set hs' with hs' | rfl
        · exact h.bs s' g c b (.inl hs') hb
        · exact hs g c b hb
      · exact h.bs s' g c b (.inr ⟨m, hs'⟩) hb
    | some i =>
      rw [hl] at hs'
      rcases hs' with hs' | ⟨m, hs'⟩
      · exact h.bs s' g c b (.inl hs') hb
      · rcases List.mem_or_eq_of_mem_set hs' with hs' | e
        · exact h.bs s' g c b (.inr ⟨m, hs'⟩) hb
        · injection e with _ e
          subst e
          exact hs g c b hb
end Dk
end Go.Proofs.Ytbgjfdeolckljaa

/- The plain law of the list: two rows of keys and bytes; what each call does, what stays true. No program in sight. -/
import Derived.Test.YtkkgajlddlnghaaT
namespace Go.Proofs.Ytkkgajlddlnghaa
set_option linter.unusedVariables false
set_option linter.unusedSimpArgs false
set_option linter.unnecessarySimpa false
namespace Lr
abbrev KV := Int × Int
structure S where
  most : Int
  trial : List KV
  kept : List KV
def sum (l : List KV) : Int := (l.map (·.2)).sum
theorem sum_nil : sum [] = 0 := rfl
theorem sum_cons (x : KV) (l : List KV) : sum (x :: l) = x.2 + sum l := rfl
theorem sum_append (l m : List KV) : sum (l ++ m) = sum l + sum m := by unfold sum; rw [List.map_append, List.sum_append]
/-- The place of a key. -/
def idx : List KV → Int → Option Nat
  | [], _ => none
  | x :: l, k => if x.1 = k then some 0 else (idx l k).map (· + 1)
def all (s : S) : List KV := s.trial ++ s.kept
theorem idx_some {k : Int} : ∀ {l : List KV} {i : Nat}, idx l k = some i → ∃ n, l[i]? = some (k, n) ∧ ∀ j x, j < i → l[j]? = some x → x.1 ≠ k
  | [], _, h => by cases h
  | x :: l, i, h => by
    unfold idx at h
    by_cases e : x.1 = k
    · rw [if_pos e] at h
      injection h with h
      subst h
      exact ⟨x.2, by rw [← e]; rfl, fun j y hj => by omega⟩
    · rw [if_neg e] at h
      cases hi : idx l k with
      | none => rw [hi] at h; cases h
      | some j =>
        rw [hi] at h
        injection h with h
        subst h
        obtain ⟨n, h1, h2⟩ := idx_some hi
        refine ⟨n, by simpa using h1, fun j' y hj hy => ?_⟩
        cases j' with
        | zero => simp at hy; rw [← hy]; exact e
        | succ j' => exact h2 j' y (Nat.lt_of_succ_lt_succ hj) (by simpa using hy)
theorem idx_none {k : Int} : ∀ {l : List KV}, idx l k = none ↔ ∀ x ∈ l, x.1 ≠ k
  | [] => by simp [idx]
  | x :: l => by
    unfold idx
    by_cases e : x.1 = k
    · rw [if_pos e]; simp [e]
    · rw [if_neg e, Option.map_eq_none_iff, idx_none (l := l)]; simp [e]
theorem idx_of {k : Int} : ∀ {l : List KV} {i : Nat} {n : Int}, l[i]? = some (k, n) → (∀ j x, j < i → l[j]? = some x → x.1 ≠ k) → idx l k = some i
  | [], i, n, h, _ => by simp at h
  | x :: l, 0, n, h, _ => by simp at h; unfold idx; rw [h]; simp
  | x :: l, i + 1, n, h, hn => by
    unfold idx
    rw [if_neg (hn 0 x (by omega) rfl), idx_of (l := l) (i := i) (by simpa using h) (fun j y hj hy => hn (j + 1) y (by omega) (by simpa using hy))]; rfl
/-- The bytes of a key. -/
def has (s : S) (k : Int) : Option Int := (idx (all s) k).bind fun i => ((all s)[i]?).map (·.2)
def take (s : S) (k : Int) : Option (KV × S) := match idx s.trial k with
  | some i => some (s.trial.getD i (0, 0), { s with trial := s.trial.eraseIdx i })
  | none => match idx s.kept k with
    | some i => some (s.kept.getD i (0, 0), { s with kept := s.kept.eraseIdx i })
    | none => none
def addE (s : S) (k n : Int) : Int := if n < 1 ∨ 1099511627776 < n then 1 else if (idx (all s) k).isSome then 7 else 0
def add (s : S) (k n : Int) : S := if addE s k n = 0 then { s with trial := s.trial ++ [(k, n)] } else s
def settle (r : Int) : List KV → List KV → List KV × List KV
  | t, [] => (t, [])
  | t, x :: l => if r < sum (x :: l) then settle r (t ++ [x]) l else (t, x :: l)
def touched (s : S) (k : Int) : S := match take s k with
  | none => s
  | some (x, s1) => { s1 with trial := (settle s.most s1.trial (s1.kept ++ [x])).1, kept := (settle s.most s1.trial (s1.kept ++ [x])).2 }
def dropped (s : S) (k : Int) : S := match take s k with | none => s | some (_, s1) => s1
def isIn (s : S) (k : Int) : Bool := (idx (all s) k).isSome
def isKept (s : S) (k : Int) : Bool := (idx s.kept k).isSome
def order (s : S) : List Int := (all s).map (·.1)
abbrev Act := Int × Int × Int
def step (s : S) (a : Act) : S := if a.1 = 1 then add s a.2.1 a.2.2 else if a.1 = 2 then touched s a.2.1 else if a.1 = 3 then dropped s a.2.1 else s
def run (s : S) (l : List Act) : S := l.foldl step s
/-! ### What stays true -/
structure Ok (s : S) (c : Nat) : Prop where
  m0 : 0 ≤ s.most
  m1 : s.most ≤ 1152921504606846976
  nd : ((all s).map (·.1)).Nodup
  by_ : ∀ x ∈ all s, 1 ≤ x.2 ∧ x.2 ≤ 1099511627776
  ks : ∀ x ∈ all s, (Lit.int .i64 x.1).wf = true
  le : sum s.kept ≤ s.most
  len : (all s).length ≤ c
theorem Ok.mono {s : S} {c d : Nat} (h : Ok s c) (hd : c ≤ d) : Ok s d := ⟨h.m0, h.m1, h.nd, h.by_, h.ks, h.le, Nat.le_trans h.len hd⟩
theorem ok_new (m : Int) (h0 : 0 ≤ m) (h1 : m ≤ 1152921504606846976) : Ok ⟨m, [], []⟩ 0 := ⟨h0, h1, by simp [all], by simp [all], by simp [all], by simpa [sum] using h0, by simp [all]⟩
theorem sum_bounds : ∀ (l : List KV), (∀ x ∈ l, 1 ≤ x.2 ∧ x.2 ≤ 1099511627776) → 0 ≤ sum l ∧ sum l ≤ 1099511627776 * (l.length : Int)
  | [], _ => by simp [sum]
  | x :: l, h => by
    obtain ⟨h1, h2⟩ := sum_bounds l (fun y hy => h y (by simp [hy]))
    have := h x (by simp)
    rw [sum_cons, List.length_cons]
    omega
theorem all_mem {s : S} {x : KV} : x ∈ all s ↔ x ∈ s.trial ∨ x ∈ s.kept := by unfold all; simp
/-- A thing out of its row: what is left, in order. -/
theorem take_some {s s1 : S} {k : Int} {x : KV} (h : take s k = some (x, s1)) : x.1 = k ∧ s1.most = s.most ∧ ∃ A B, (s.trial = A ++ x :: B ∧ s1.trial = A ++ B ∧ s1.kept = s.kept) ∨ (s.kept = A ++ x :: B ∧ s1.kept = A ++ B ∧ s1.trial = s.trial ∧ idx s.trial k = none) := by
  have key : ∀ (l : List KV) (i : Nat), idx l k = some i → ∃ A B, l = A ++ l.getD i (0, 0) :: B ∧ l.eraseIdx i = A ++ B ∧ (l.getD i (0, 0)).1 = k := by
    intro l i hi
    obtain ⟨n, h1, _⟩ := idx_some hi
    have hl := (List.getElem?_eq_some_iff.1 h1).1
    have hg : l.getD i (0, 0) = (k, n) := by rw [List.getD_eq_getElem?_getD, h1]; rfl
    refine ⟨l.take i, l.drop (i + 1), ?_, List.eraseIdx_eq_take_drop_succ l i, by rw [hg]⟩
    rw [hg]
    have := (List.getElem?_eq_some_iff.1 h1).2
    rw [← this, List.getElem_cons_drop, List.take_append_drop]
  unfold take at h
  cases hi : idx s.trial k with
  | some i =>
    rw [hi] at h
    simp only [Option.some.injEq, Prod.mk.injEq] at h
    obtain ⟨A, B, h1, h2, h3⟩ := key _ _ hi
    obtain ⟨hx, hs⟩ := h
    rw [hx] at h1 h3
    exact ⟨h3, by rw [← hs], A, B, .inl ⟨h1, by rw [← hs]; exact h2, by rw [← hs]⟩⟩
  | none =>
    rw [hi] at h
    simp only at h
    cases hj : idx s.kept k with
    | none => rw [hj] at h; cases h
    | some i =>
      rw [hj] at h
      simp only [Option.some.injEq, Prod.mk.injEq] at h
      obtain ⟨A, B, h1, h2, h3⟩ := key _ _ hj
      obtain ⟨hx, hs⟩ := h
      rw [hx] at h1 h3
      exact ⟨h3, by rw [← hs], A, B, .inr ⟨h1, by rw [← hs]; exact h2, by rw [← hs], rfl⟩⟩
theorem take_none {s : S} {k : Int} : take s k = none ↔ isIn s k = false := by
  unfold take isIn
  have h1 := @idx_none k s.trial
  have h2 := @idx_none k s.kept
  have h3 := @idx_none k (all s)
  cases ht : idx s.trial k with
  | some i =>
    simp only [reduceCtorEq, false_iff, Bool.not_eq_false]
    obtain ⟨n, hn, _⟩ := idx_some ht
    cases ha : idx (all s) k with
    | some j => rfl
    | none => exact absurd rfl (h3.1 ha (k, n) (all_mem.2 (.inl (List.mem_of_getElem? hn))))
  | none =>
    cases hk : idx s.kept k with
    | some i =>
      simp only [reduceCtorEq, false_iff, Bool.not_eq_false]
      obtain ⟨n, hn, _⟩ := idx_some hk
      cases ha : idx (all s) k with
      | some j => rfl
      | none => exact absurd rfl (h3.1 ha (k, n) (all_mem.2 (.inr (List.mem_of_getElem? hn))))
    | none =>
      have : idx (all s) k = none := h3.2 fun x hx => by
        rcases all_mem.1 hx with hx | hx
        · exact h1.1 ht x hx
        · exact h2.1 hk x hx
      simp [this]
theorem settle_spec (r : Int) : ∀ (k t : List KV), ∃ A B, k = A ++ B ∧ (settle r t k).1 = t ++ A ∧ (settle r t k).2 = B ∧ (sum B ≤ r ∨ B = [])
  | [], t => ⟨[], [], rfl, by simp [settle], by simp [settle], .inr rfl⟩
  | x :: k, t => by
    unfold settle
    by_cases h : r < sum (x :: k)
    · rw [if_pos h]
      obtain ⟨A, B, h1, h2, h3, h4⟩ := settle_spec r k (t ++ [x])
      exact ⟨x :: A, B, by rw [h1]; rfl, by rw [h2]; simp, h3, h4⟩
    · rw [if_neg h]
      exact ⟨[], x :: k, rfl, by simp, rfl, .inl (by omega)⟩
/-- What was put last stays kept, if it may; else nothing stays kept. -/
theorem settle_last (r : Int) (x : KV) : ∀ (k t : List KV), (∀ y ∈ k, 1 ≤ y.2) → 1 ≤ x.2 →
    (x.2 ≤ r → ∃ B, (settle r t (k ++ [x])).2 = B ++ [x]) ∧ (r < x.2 → (settle r t (k ++ [x])) = (t ++ k ++ [x], []))
  | [], t, _, hx => by
    constructor
    · intro h
      refine ⟨[], ?_⟩
      show (settle r t [x]).2 = _
      unfold settle
      rw [if_neg (by simp [sum]; omega)]; rfl
    · intro h
      show (settle r t [x]) = _
      unfold settle
      rw [if_pos (by simp [sum]; omega)]
      simp [settle]
  | y :: k, t, hk, hx => by
    obtain ⟨i1, i2⟩ := settle_last r x k (t ++ [y]) (fun z hz => hk z (by simp [hz])) hx
    have hy := hk y (by simp)
    have hnn : ∀ (l : List KV), (∀ z ∈ l, 1 ≤ z.2) → 0 ≤ sum l := by
      intro l
      induction l with
      | nil => intro _; simp [sum]
      | cons z l ih => intro h; rw [sum_cons]; have := ih (fun u hu => h u (by simp [hu])); have := h z (by simp); omega
    have hs : x.2 < sum (y :: (k ++ [x])) := by
      rw [sum_cons, sum_append]
      have := hnn k (fun z hz => hk z (by simp [hz]))
      simp [sum] at this ⊢; omega
    constructor
    · intro h
      show ∃ B, (settle r t (y :: (k ++ [x]))).2 = B ++ [x]
      unfold settle
      by_cases hc : r < sum (y :: (k ++ [x]))
      · rw [if_pos hc]; exact i1 h
      · rw [if_neg hc]; exact ⟨y :: k, rfl⟩
    · intro h
      show (settle r t (y :: (k ++ [x]))) = _
      unfold settle
      rw [if_pos (by omega), i2 h]
      simp
theorem perm_take {s s1 : S} {k : Int} {x : KV} (h : take s k = some (x, s1)) : (all s).Perm (x :: all s1) := by
  obtain ⟨_, _, A, B, (⟨h1, h2, h3⟩ | ⟨h1, h2, h3, _⟩)⟩ := take_some h
  · unfold all; rw [h1, h2, h3]; simp only [List.append_assoc, List.cons_append]; exact List.perm_middle
  · unfold all; rw [h1, h2, h3]
    rw [← List.append_assoc, ← List.append_assoc]
    exact List.perm_middle
theorem ok_of_perm {s s1 : S} {c d : Nat} {X : List KV} (h : Ok s c) (hp : (X ++ all s1).Perm (all s)) (hm : s1.most = s.most) (hl : sum s1.kept ≤ s.most) (hc : (all s1).length ≤ d) : Ok s1 d := by
  refine ⟨by rw [hm]; exact h.m0, by rw [hm]; exact h.m1, ?_, fun x hx => h.by_ x (hp.mem_iff.1 (List.mem_append_right _ hx)), fun x hx => h.ks x (hp.mem_iff.1 (List.mem_append_right _ hx)), by rw [hm]; exact hl, hc⟩
  have := (hp.map (·.1)).nodup_iff.2 h.nd
  rw [List.map_append, List.nodup_append] at this
  exact this.2.1
theorem sum_split {A B : List KV} {x : KV} (h : ∀ y ∈ A ++ x :: B, 1 ≤ y.2 ∧ y.2 ≤ 1099511627776) : sum (A ++ B) ≤ sum (A ++ x :: B) := by
  rw [sum_append, sum_append, sum_cons]
  have := h x (by simp)
  omega
theorem taken_ok {s s1 : S} {k : Int} {x : KV} {c : Nat} (hk : Ok s c) (h : take s k = some (x, s1)) : Ok s1 c ∧ (all s1).length + 1 = (all s).length := by
  have hp := perm_take h
  have hlen : (all s1).length + 1 = (all s).length := by have := hp.length_eq; simp at this; omega
  have hle := hk.len
  refine ⟨ok_of_perm (X := [x]) hk hp.symm (take_some h).2.1 ?_ (by omega), hlen⟩
  obtain ⟨_, _, A, B, (⟨h1, h2, h3⟩ | ⟨h1, h2, h3, _⟩)⟩ := take_some h
  · rw [h3]; exact hk.le
  · have h4 := hk.le
    rw [h1] at h4
    rw [h2]
    have := sum_split (A := A) (B := B) (x := x) (fun y hy => hk.by_ y (all_mem.2 (.inr (by rw [h1]; exact hy))))
    omega
theorem settle_ok {s1 : S} {x : KV} {c : Nat} (hk : Ok s1 c) (hx : 1 ≤ x.2 ∧ x.2 ≤ 1099511627776) (hx1 : (Lit.int .i64 x.1).wf = true) (hn : ∀ y ∈ all s1, y.1 ≠ x.1) :
    Ok { s1 with trial := (settle s1.most s1.trial (s1.kept ++ [x])).1, kept := (settle s1.most s1.trial (s1.kept ++ [x])).2 } (c + 1) := by
  obtain ⟨A, B, h1, h2, h3, h4⟩ := settle_spec s1.most (s1.kept ++ [x]) s1.trial
  rw [h2, h3]
  have hall : all { s1 with trial := s1.trial ++ A, kept := B } = all s1 ++ [x] := by
    unfold all; simp only []
    rw [List.append_assoc, ← h1, List.append_assoc]
  have hl := hk.len
  refine ⟨hk.m0, hk.m1, ?_, ?_, ?_, ?_, ?_⟩
  · rw [hall, List.map_append, List.nodup_append]
    refine ⟨hk.nd, by simp, fun a ha b hb => ?_⟩
    obtain ⟨y, hy, rfl⟩ := List.mem_map.1 ha
    simp at hb
    rw [hb]; exact hn y hy
  · rw [hall]; intro y hy
    rcases List.mem_append.1 hy with hy | hy
    · exact hk.by_ y hy
    · simp at hy; rw [hy]; exact hx
  · rw [hall]; intro y hy
    rcases List.mem_append.1 hy with hy | hy
    · exact hk.ks y hy
    · simp at hy; rw [hy]; exact hx1
  · rcases h4 with h4 | h4
    · exact h4
    · rw [h4]; have := hk.m0; simpa [sum] using this
  · rw [hall]; simp; omega
theorem fresh_of_take {s s1 : S} {k : Int} {x : KV} {c : Nat} (hk : Ok s c) (h : take s k = some (x, s1)) : ∀ y ∈ all s1, y.1 ≠ x.1 := by
  have hp := ((perm_take h).map (·.1)).nodup_iff.1 hk.nd
  rw [List.map_cons, List.nodup_cons] at hp
  intro y hy e
  exact hp.1 (List.mem_map.2 ⟨y, hy, e⟩)
theorem touched_ok {s : S} {c : Nat} (hk : Ok s c) (k : Int) : Ok (touched s k) c := by
  unfold touched
  cases h : take s k with
  | none => exact hk
  | some p =>
    obtain ⟨x, s1⟩ := p
    obtain ⟨h1, h2⟩ := taken_ok hk h
    have hm := (take_some h).2.1
    have hx := (perm_take h).mem_iff.2 (List.mem_cons_self ..)
    have hle := hk.len
    have h1' : Ok s1 (c - 1) := ⟨h1.m0, h1.m1, h1.nd, h1.by_, h1.ks, h1.le, by omega⟩
    have := settle_ok (x := x) h1' (hk.by_ x hx) (hk.ks x hx) (fresh_of_take hk h)
    simp only []
    rw [← hm]
    exact this.mono (by omega)
theorem dropped_ok {s : S} {c : Nat} (hk : Ok s c) (k : Int) : Ok (dropped s k) c := by
  unfold dropped
  cases h : take s k with
  | none => exact hk
  | some p => obtain ⟨x, s1⟩ := p; exact (taken_ok hk h).1
theorem add_ok {s : S} {c : Nat} (hk : Ok s c) (k n : Int) (hw : (Lit.int .i64 k).wf = true) : Ok (add s k n) (c + 1) := by
  unfold add
  by_cases he : addE s k n = 0
  · rw [if_pos he]
    unfold addE at he
    by_cases h1 : n < 1 ∨ 1099511627776 < n
    · rw [if_pos h1] at he; omega
    rw [if_neg h1] at he
    cases hi : idx (all s) k with
    | some i => rw [hi] at he; simp at he
    | none =>
      have hn := idx_none.1 hi
      have hp : (all { s with trial := s.trial ++ [(k, n)] }).Perm ((k, n) :: all s) := by
        unfold all; simp only [List.append_assoc, List.cons_append, List.nil_append]
        exact List.perm_middle
      refine ⟨hk.m0, hk.m1, ?_, ?_, ?_, hk.le, ?_⟩
      · refine (hp.map (·.1)).nodup_iff.2 ?_
        rw [List.map_cons, List.nodup_cons]
        refine ⟨fun hm => ?_, hk.nd⟩
        obtain ⟨y, hy, e⟩ := List.mem_map.1 hm
        exact hn y hy e
      · intro y hy
        rcases List.mem_cons.1 (hp.mem_iff.1 hy) with rfl | hy
        · simp only []; omega
        · exact hk.by_ y hy
      · intro y hy
        rcases List.mem_cons.1 (hp.mem_iff.1 hy) with rfl | hy
        · exact hw
        · exact hk.ks y hy
      · have := hp.length_eq
        have := hk.len
        simp at *; omega
  · rw [if_neg he]; exact hk.mono (by omega)
theorem step_ok {s : S} {c : Nat} (hk : Ok s c) (a : Act) (hw : (Lit.int .i64 a.2.1).wf = true) : Ok (step s a) (c + 1) := by
  unfold step
  split
  · exact add_ok hk _ _ hw
  · split
    · exact (touched_ok hk _).mono (by omega)
    · split
      · exact (dropped_ok hk _).mono (by omega)
      · exact hk.mono (by omega)
theorem run_ok {s : S} : ∀ (l : List Act) {c : Nat} (s : S), Ok s c → (∀ a ∈ l, (Lit.int .i64 a.2.1).wf = true) → Ok (run s l) (c + l.length)
  | [], c, s, h, _ => h
  | a :: l, c, s, h, hw => by
    have := run_ok (s := s) l (step s a) (step_ok h a (hw a (by simp))) (fun b hb => hw b (by simp [hb]))
    unfold run at this ⊢
    rw [List.foldl_cons]
    exact this.mono (by simp; omega)
end Lr
end Go.Proofs.Ytkkgajlddlnghaa

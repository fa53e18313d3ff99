/- A list as it lies in memory; a thing out of it, a thing put in: what stays true. -/
import Derived.Test.YtkkgajlddlnghaaLe
namespace Go.Proofs.Ytkkgajlddlnghaa
set_option linter.unusedVariables false
set_option linter.unusedSimpArgs false
set_option linter.unnecessarySimpa false
open Go.RowKit Go.Proofs.YtkkgajlddlnghaaW.PrintLast
namespace Lr
def kvs (l : List Th) : List KV := l.map Th.kv
theorem kvs_app (l m : List Th) : kvs (l ++ m) = kvs l ++ kvs m := by unfold kvs; simp
structure Rep (T : Tab) (g mb : Nat) (F : Int → Value) (most : Int) (tt kk : List Th) : Prop where
  room : T.get g 0 = some (.int .i64 most)
  at_ : T.get g 11 = some (.map (some mb))
  all_ : T.get g 12 = some (.int .i64 (sum (kvs tt) + sum (kvs kk)))
  held : T.get g 13 = some (.int .i64 (sum (kvs kk)))
  rt : Seg T (g, 1) tt (g, 1)
  rk : Seg T (g, 6) kk (g, 6)
  nd : (g :: ids (tt ++ kk)).Nodup
  ct : ∀ x ∈ tt, T.get x.b 0 = some (.int .i64 x.k) ∧ T.get x.b 1 = some (.int .i64 x.n) ∧ T.get x.b 2 = some (.bool false)
  ck : ∀ x ∈ kk, T.get x.b 0 = some (.int .i64 x.k) ∧ T.get x.b 1 = some (.int .i64 x.n) ∧ T.get x.b 2 = some (.bool true)
  fm : ∀ x ∈ tt ++ kk, F x.k = ptr x.nd
  fn : ∀ k, (∀ x ∈ tt ++ kk, x.k ≠ k) → F k = .pointer none
structure Bd (l : List Th) : Prop where
  by_ : ∀ x ∈ l, 1 ≤ x.n ∧ x.n ≤ 1099511627776 ∧ (Lit.int .i64 x.k).wf = true
  len : l.length ≤ 1000000
structure Loose (T : Tab) (x : Th) (kp : Bool) : Prop where
  c0 : T.get x.b 0 = some (.int .i64 x.k)
  c1 : T.get x.b 1 = some (.int .i64 x.n)
  c2 : T.get x.b 2 = some (.bool kp)
  c3 : ∃ u, T.get x.b 3 = some u
  c4 : ∃ u, T.get x.b 4 = some u
theorem mend_safe {T : Tab} {p q : Nd} {b o : Nat} (hp : p.2 ≤ 6) (hq : q.2 ≤ 6) (h : o ≤ 2 ∨ 11 ≤ o) : (mend T p q).get b o = T.get b o := mend_get (by omega) (by omega)
theorem lay_get {T : Tab} {e p : Nd} {b c o : Nat} (h1 : ¬(b = c ∧ (o = 3 ∨ o = 4))) (h2 : ¬(p.1 = c ∧ p.2 + 4 = o)) (h3 : ¬(e.1 = c ∧ e.2 + 3 = o)) : (lay T e p b).get c o = T.get c o := by
  unfold lay
  rw [Tab.get_put_ne (ne_or h3), Tab.get_put_ne (ne_or h2), Tab.get_put_ne (ne_or fun ⟨x, y⟩ => h1 ⟨x, .inr y.symm⟩), Tab.get_put_ne (ne_or fun ⟨x, y⟩ => h1 ⟨x, .inl y.symm⟩)]
theorem lay_safe {T : Tab} {e p : Nd} {b c o : Nat} (hp : p.2 ≤ 6) (he : e.2 ≤ 6) (h : o ≤ 2 ∨ 11 ≤ o) : (lay T e p b).get c o = T.get c o := lay_get (by omega) (by omega) (by omega)
theorem seg_put_hi {T : Tab} {g o : Nat} {v : Value} {l : List Th} {a e : Nd} (ho : 11 ≤ o) (ha : a.2 ≤ 6) (he : e.2 ≤ 6) (h : Seg T a l e) : Seg (T.put g o v) a l e := by
  refine seg_frame h (fun p hp => Tab.get_put_ne (.inr ?_)) (fun p hp => Tab.get_put_ne (.inr ?_))
  · rcases hp with rfl | ⟨x, _, rfl⟩
    · omega
    · simp only [Th.nd]; omega
  · rcases hp with rfl | ⟨x, _, rfl⟩
    · omega
    · simp only [Th.nd]; omega
/-- A place of one of a ring's nodes. -/
def In (e : Nd) (l : List Th) (p : Nd) : Prop := p = e ∨ ∃ y ∈ l, p = y.nd
theorem In.le {e p : Nd} {l : List Th} (h : In e l p) (he : e.2 ≤ 6) : p.2 ≤ 6 := by
  rcases h with rfl | ⟨y, _, rfl⟩
  · exact he
  · simp [Th.nd]
/-- Another ring is not touched by a ring's mending, nor by a thing's coming. -/
theorem apart {g : Nat} {e e' p q : Nd} {l l' : List Th} (hE : IsEnd g e) (hE' : IsEnd g e') (hee : e.2 ≠ e'.2) (hg : ∀ x ∈ l, x.b ≠ g) (hg' : ∀ x ∈ l', x.b ≠ g) (hd : ∀ x ∈ l, ∀ y ∈ l', x.b ≠ y.b) (hp : In e l p) (hq : q = e' ∨ ∃ y ∈ l', q = y.nd) :
    ¬(p.1 = q.1 ∧ p.2 + 4 = q.2 + 4) ∧ ¬(p.1 = q.1 ∧ p.2 + 3 = q.2 + 4) ∧ ¬(p.1 = q.1 ∧ p.2 + 4 = q.2 + 3) ∧ ¬(p.1 = q.1 ∧ p.2 + 3 = q.2 + 3) := by
  obtain ⟨e1, e2⟩ := hE
  obtain ⟨e1', e2'⟩ := hE'
  rcases hp with rfl | ⟨x, hx, rfl⟩ <;> rcases hq with rfl | ⟨y, hy, rfl⟩
  · omega
  · have := hg' y hy
    simp only [Th.nd]
    refine ⟨?_, ?_, ?_, ?_⟩ <;> (rintro ⟨h1, _⟩; exact this (h1.symm.trans e1))
  · have := hg x hx
    simp only [Th.nd]
    refine ⟨?_, ?_, ?_, ?_⟩ <;> (rintro ⟨h1, _⟩; exact this (h1.trans e1'))
  · have := hd x hx y hy
    simp only [Th.nd]
    refine ⟨?_, ?_, ?_, ?_⟩ <;> (rintro ⟨h1, _⟩; exact this h1)
theorem seg_mend_other {T : Tab} {g : Nat} {e e' p q : Nd} {l l' : List Th} (hE : IsEnd g e) (hE' : IsEnd g e') (hee : e.2 ≠ e'.2) (hg : ∀ x ∈ l, x.b ≠ g) (hg' : ∀ x ∈ l', x.b ≠ g) (hd : ∀ x ∈ l, ∀ y ∈ l', x.b ≠ y.b) (hp : In e l p) (hq : In e l q) (h : Seg T e' l' e') : Seg (mend T p q) e' l' e' := by
  refine seg_frame h (fun r hr => mend_get ?_ ?_) (fun r hr => mend_get ?_ ?_)
  · exact (apart hE hE' hee hg hg' hd hp hr).1
  · exact (apart hE hE' hee hg hg' hd hq hr).2.1
  · exact (apart hE hE' hee hg hg' hd hp hr).2.2.1
  · exact (apart hE hE' hee hg hg' hd hq hr).2.2.2
theorem seg_lay_other {T : Tab} {g b : Nat} {e e' p : Nd} {l l' : List Th} (hE : IsEnd g e) (hE' : IsEnd g e') (hee : e.2 ≠ e'.2) (hg : ∀ x ∈ l, x.b ≠ g) (hg' : ∀ x ∈ l', x.b ≠ g) (hd : ∀ x ∈ l, ∀ y ∈ l', x.b ≠ y.b) (hp : In e l p) (hb : b ≠ g) (hb' : ∀ x ∈ l', x.b ≠ b) (h : Seg T e' l' e') : Seg (lay T e p b) e' l' e' := by
  have key : ∀ r : Nd, (r = e' ∨ ∃ y ∈ l', r = y.nd) → b ≠ r.1 := by
    rintro r (rfl | ⟨y, hy, rfl⟩)
    · rw [hE'.1]; exact hb
    · exact (hb' y hy).symm
  refine seg_frame h (fun r hr => lay_get (fun h => key r hr h.1) ?_ ?_) (fun r hr => lay_get (fun h => key r hr h.1) ?_ ?_)
  · exact (apart hE hE' hee hg hg' hd hp hr).1
  · exact (apart hE hE' hee hg hg' hd (.inl rfl) hr).2.1
  · exact (apart hE hE' hee hg hg' hd hp hr).2.2.1
  · exact (apart hE hE' hee hg hg' hd (.inl rfl) hr).2.2.2
theorem end1 (g : Nat) : IsEnd g (g, 1) := ⟨rfl, .inl rfl⟩
theorem end6 (g : Nat) : IsEnd g (g, 6) := ⟨rfl, .inr rfl⟩
theorem nd_parts {g : Nat} {tt kk : List Th} (h : (g :: ids (tt ++ kk)).Nodup) : (∀ x ∈ tt, x.b ≠ g) ∧ (∀ x ∈ kk, x.b ≠ g) ∧ (∀ x ∈ tt, ∀ y ∈ kk, x.b ≠ y.b) ∧ (g :: ids tt).Nodup ∧ (g :: ids kk).Nodup := by
  rw [ids_app, List.nodup_cons, List.mem_append, List.nodup_append] at h
  obtain ⟨h1, h2, h3, h4⟩ := h
  refine ⟨fun x hx e => h1 (.inl (by rw [← e]; exact ids_mem hx)), fun x hx e => h1 (.inr (by rw [← e]; exact ids_mem hx)), fun x hx y hy => h4 x.b (ids_mem hx) y.b (ids_mem hy), ?_, ?_⟩
  · exact List.nodup_cons.2 ⟨fun h => h1 (.inl h), h2⟩
  · exact List.nodup_cons.2 ⟨fun h => h1 (.inr h), h3⟩
/-- Which thing goes out, and what is left. -/
inductive Out (x : Th) : Bool → List Th → List Th → List Th → List Th → Prop where
  | trial (A B kk) : Out x false (A ++ x :: B) kk (A ++ B) kk
  | kept (A B tt) : Out x true tt (A ++ x :: B) tt (A ++ B)
theorem Out.perm {x : Th} {kp : Bool} {tt kk tt1 kk1 : List Th} (h : Out x kp tt kk tt1 kk1) : (tt ++ kk).Perm (x :: (tt1 ++ kk1)) := by
  cases h with
  | trial A B kk => rw [List.append_assoc, List.cons_append, List.append_assoc]; exact List.perm_middle
  | kept A B tt => rw [← List.append_assoc, ← List.append_assoc]; exact List.perm_middle
theorem nodup_of_perm {g : Nat} {l m : List Th} {x : Th} (h : (g :: ids l).Nodup) (hp : l.Perm (x :: m)) : (g :: ids m).Nodup ∧ x.b ≠ g ∧ x.b ∉ ids m := by
  have h1 : (g :: ids (x :: m)).Nodup := ((hp.map fun z : Th => z.b).cons g).nodup_iff.1 h
  simp only [ids, List.map_cons, List.nodup_cons, List.mem_cons, not_or] at h1
  exact ⟨List.nodup_cons.2 ⟨h1.1.2, h1.2.2⟩, fun e => h1.1.1 e.symm, h1.2.1⟩
theorem Bd.sum {l : List Th} (h : Bd l) : 0 ≤ Lr.sum (kvs l) ∧ Lr.sum (kvs l) < 4611686018427387904 := by
  have h1 := sum_bounds (kvs l) (fun x hx => by
    obtain ⟨y, hy, rfl⟩ := List.mem_map.1 hx
    exact ⟨(h.by_ y hy).1, (h.by_ y hy).2.1⟩)
  have h2 : (kvs l).length = l.length := by simp [kvs]
  have h3 := h.len
  rw [h2] at h1
  omega
theorem Bd.left {l m : List Th} (h : Bd (l ++ m)) : Bd l := ⟨fun x hx => h.by_ x (List.mem_append_left _ hx), by have := h.len; simp at this; omega⟩
theorem Bd.right {l m : List Th} (h : Bd (l ++ m)) : Bd m := ⟨fun x hx => h.by_ x (List.mem_append_right _ hx), by have := h.len; simp at this; omega⟩
theorem Bd.perm {l m : List Th} (h : Bd l) (hp : l.Perm m) : Bd m := ⟨fun x hx => h.by_ x (hp.mem_iff.2 hx), by rw [← hp.length_eq]; exact h.len⟩
/-- What the walk of 'out' wants, and what it leaves. -/
theorem rep_out {T : Tab} {g mb : Nat} {F : Int → Value} {most : Int} {tt kk tt1 kk1 : List Th} {x : Th} {kp : Bool} (R : Rep T g mb F most tt kk) (O : Out x kp tt kk tt1 kk1) :
    ∃ p q, T.get x.b 3 = some (ptr p) ∧ T.get x.b 4 = some (ptr q) ∧ (∃ u, T.get p.1 (p.2 + 4) = some u) ∧ (∃ u, T.get q.1 (q.2 + 3) = some u) ∧ ¬(q.1 = p.1 ∧ q.2 + 3 = p.2 + 4) ∧ p.1 ≠ x.b ∧ g ≠ x.b ∧ p.2 ≤ 6 ∧ q.2 ≤ 6 ∧
      T.get x.b 0 = some (.int .i64 x.k) ∧ T.get x.b 1 = some (.int .i64 x.n) ∧ T.get x.b 2 = some (.bool kp) ∧
      Rep (outT T p q g kp (sum (kvs kk)) x.n (sum (kvs tt) + sum (kvs kk))) g mb (fun k => if k = x.k then .pointer none else F k) most tt1 kk1 ∧
      Loose (outT T p q g kp (sum (kvs kk)) x.n (sum (kvs tt) + sum (kvs kk))) x kp ∧ x.b ≠ g ∧ x.b ∉ ids (tt1 ++ kk1) := by
  have hperm := O.perm
  obtain ⟨nd1, xg, xn⟩ := nodup_of_perm R.nd hperm
  have hF : ∀ y ∈ tt1 ++ kk1, y.k ≠ x.k := fun y hy e => by
    have h1 := R.fm y (hperm.mem_iff.2 (List.mem_cons_of_mem _ hy))
    have h2 := R.fm x (hperm.mem_iff.2 (List.mem_cons_self ..))
    rw [e, h2] at h1
    have : x.b = y.b := by
      unfold ptr Th.nd at h1
      injection h1 with h1; injection h1 with h1; injection h1
    exact xn (by rw [this]; exact ids_mem hy)
  have fm' : ∀ y ∈ tt1 ++ kk1, (if y.k = x.k then Value.pointer none else F y.k) = ptr y.nd := fun y hy => by
    rw [if_neg (hF y hy)]; exact R.fm y (hperm.mem_iff.2 (List.mem_cons_of_mem _ hy))
  have fn' : ∀ k, (∀ y ∈ tt1 ++ kk1, y.k ≠ k) → (if k = x.k then Value.pointer none else F k) = .pointer none := fun k hk => by
    by_cases e : k = x.k
    · rw [if_pos e]
    · rw [if_neg e]
      refine R.fn k fun y hy => ?_
      rcases List.mem_cons.1 (hperm.mem_iff.1 hy) with rfl | hy
      · exact fun h => e h.symm
      · exact hk y hy
  cases O with
  | trial A B kk =>
    obtain ⟨gt, gk, tk, ndt, ndk⟩ := nd_parts R.nd
    obtain ⟨p, q, h1, h2, h3, h4, h5, h6, h7, h8⟩ := seg_out (end1 g) R.rt ndt
    have hp : In (g, 1) (A ++ x :: B) p := by
      rcases h3 with h | ⟨y, hy, h⟩
      · exact .inl h
      · exact .inr ⟨y, by simp [hy], h⟩
    have hq : In (g, 1) (A ++ x :: B) q := by
      rcases h4 with h | ⟨y, hy, h⟩
      · exact .inl h
      · exact .inr ⟨y, by simp [hy], h⟩
    have pl := hp.le (by simp)
    have ql := hq.le (by simp)
    have px : p.1 ≠ x.b := by
      rcases h3 with rfl | ⟨y, hy, rfl⟩
      · exact xg.symm
      · exact fun e => xn (by rw [← show y.b = x.b from e]; exact ids_mem (by simp [hy]))
    obtain ⟨c0, c1, c2⟩ := R.ct x (by simp)
    have other := seg_mend_other (end1 g) (end6 g) (by simp) gt gk tk hp hq R.rk
    have hg0 : ∀ o b, o ≤ 2 → (outT T p q g false (sum (kvs kk)) x.n (sum (kvs (A ++ x :: B)) + sum (kvs kk))).get b o = T.get b o := fun o b ho => by
      unfold outT
      rw [Tab.get_put_ne (.inr (by omega))]
      exact mend_safe pl ql (.inl ho)
    have hs : sum (kvs (A ++ x :: B)) + sum (kvs kk) - x.n = sum (kvs (A ++ B)) + sum (kvs kk) := by
      simp only [kvs, List.map_append, List.map_cons, sum_append, sum_cons, Th.kv]; omega
    refine ⟨p, q, h1, h2, h5, h6, h7, px, xg.symm, pl, ql, c0, c1, c2, ⟨?_, ?_, ?_, ?_, ?_, ?_, nd1, ?_, ?_, fm', fn'⟩, ⟨?_, ?_, ?_, ?_, ?_⟩, xg, xn⟩
    · rw [hg0 _ _ (by decide)]; exact R.room
    · unfold outT; rw [Tab.get_put_ne (.inr (by decide))]; exact (mend_safe pl ql (.inr (by decide))).trans R.at_
    · unfold outT; rw [hs]; exact Tab.get_put_same (u := .int .i64 (sum (kvs (A ++ x :: B)) + sum (kvs kk))) ((mend_safe pl ql (.inr (by decide))).trans R.all_)
    · unfold outT; rw [Tab.get_put_ne (.inr (by decide))]; exact (mend_safe pl ql (.inr (by decide))).trans R.held
    · unfold outT; exact seg_put_hi (by decide) (by simp) (by simp) h8
    · unfold outT; exact seg_put_hi (by decide) (by simp) (by simp) other
    · intro y hy
      rw [hg0 _ _ (by decide), hg0 _ _ (by decide), hg0 _ _ (by decide)]
      exact R.ct y (by simp at hy ⊢; grind)
    · intro y hy
      rw [hg0 _ _ (by decide), hg0 _ _ (by decide), hg0 _ _ (by decide)]
      exact R.ck y hy
    · rw [hg0 _ _ (by decide)]; exact c0
    · rw [hg0 _ _ (by decide)]; exact c1
    · rw [hg0 _ _ (by decide)]; exact c2
    · unfold outT
      rw [Tab.get_put_ne (.inl xg.symm)]
      by_cases hc : q.1 = x.b ∧ q.2 + 3 = 3
      · obtain ⟨qb, qo⟩ := q
        obtain ⟨rfl, hc⟩ := hc
        have : qo = 0 := by omega
        subst this
        obtain ⟨u, hu⟩ := h6
        exact ⟨_, mend_prev hu h7⟩
      · exact ⟨_, (mend_get (fun h => px h.1) hc).trans h1⟩
    · unfold outT
      rw [Tab.get_put_ne (.inl xg.symm)]
      refine ⟨_, (mend_get (fun h => px h.1) ?_).trans h2⟩
      rintro ⟨e1, e2⟩
      rcases h4 with rfl | ⟨y, hy, rfl⟩
      · exact xg e1.symm
      · simp only [Th.nd] at e2; omega
  | kept A B tt =>
    obtain ⟨gt, gk, tk, ndt, ndk⟩ := nd_parts R.nd
    obtain ⟨p, q, h1, h2, h3, h4, h5, h6, h7, h8⟩ := seg_out (end6 g) R.rk ndk
    have hp : In (g, 6) (A ++ x :: B) p := by
      rcases h3 with h | ⟨y, hy, h⟩
      · exact .inl h
      · exact .inr ⟨y, by simp [hy], h⟩
    have hq : In (g, 6) (A ++ x :: B) q := by
      rcases h4 with h | ⟨y, hy, h⟩
      · exact .inl h
      · exact .inr ⟨y, by simp [hy], h⟩
    have pl := hp.le (by simp)
    have ql := hq.le (by simp)
    have px : p.1 ≠ x.b := by
      rcases h3 with rfl | ⟨y, hy, rfl⟩
      · exact xg.symm
      · exact fun e => xn (by rw [← show y.b = x.b from e]; exact ids_mem (by simp [hy]))
    obtain ⟨c0, c1, c2⟩ := R.ck x (by simp)
    have other := seg_mend_other (end6 g) (end1 g) (by simp) gk gt (fun y hy z hz e => tk z hz y hy e.symm) hp hq R.rt
    have hg0 : ∀ o b, o ≤ 2 → (outT T p q g true (sum (kvs (A ++ x :: B))) x.n (sum (kvs tt) + sum (kvs (A ++ x :: B)))).get b o = T.get b o := fun o b ho => by
      unfold outT
      rw [Tab.get_put_ne (.inr (by omega)), if_pos rfl, Tab.get_put_ne (.inr (by omega))]
      exact mend_safe pl ql (.inl ho)
    have hs : sum (kvs tt) + sum (kvs (A ++ x :: B)) - x.n = sum (kvs tt) + sum (kvs (A ++ B)) := by
      simp only [kvs, List.map_append, List.map_cons, sum_append, sum_cons, Th.kv]; omega
    have hs2 : sum (kvs (A ++ x :: B)) - x.n = sum (kvs (A ++ B)) := by
      simp only [kvs, List.map_append, List.map_cons, sum_append, sum_cons, Th.kv]; omega
    refine ⟨p, q, h1, h2, h5, h6, h7, px, xg.symm, pl, ql, c0, c1, c2, ⟨?_, ?_, ?_, ?_, ?_, ?_, nd1, ?_, ?_, fm', fn'⟩, ⟨?_, ?_, ?_, ?_, ?_⟩, xg, xn⟩
    · rw [hg0 _ _ (by decide)]; exact R.room
    · unfold outT; rw [Tab.get_put_ne (.inr (by decide)), if_pos rfl, Tab.get_put_ne (.inr (by decide))]; exact (mend_safe pl ql (.inr (by decide))).trans R.at_
    · unfold outT; rw [hs, if_pos rfl]; exact Tab.get_put_same (u := .int .i64 (sum (kvs tt) + sum (kvs (A ++ x :: B)))) (by rw [Tab.get_put_ne (.inr (by decide))]; exact (mend_safe pl ql (.inr (by decide))).trans R.all_)
    · unfold outT; rw [Tab.get_put_ne (.inr (by decide)), if_pos rfl, hs2]; exact Tab.get_put_same (u := .int .i64 (sum (kvs (A ++ x :: B)))) ((mend_safe pl ql (.inr (by decide))).trans R.held)
    · unfold outT; rw [if_pos rfl]; exact seg_put_hi (by decide) (by simp) (by simp) (seg_put_hi (by decide) (by simp) (by simp) other)
    · unfold outT; rw [if_pos rfl]; exact seg_put_hi (by decide) (by simp) (by simp) (seg_put_hi (by decide) (by simp) (by simp) h8)
    · intro y hy
      rw [hg0 _ _ (by decide), hg0 _ _ (by decide), hg0 _ _ (by decide)]
      exact R.ct y hy
    · intro y hy
      rw [hg0 _ _ (by decide), hg0 _ _ (by decide), hg0 _ _ (by decide)]
      exact R.ck y (by simp at hy ⊢; grind)
    · rw [hg0 _ _ (by decide)]; exact c0
    · rw [hg0 _ _ (by decide)]; exact c1
    · rw [hg0 _ _ (by decide)]; exact c2
    · unfold outT
      rw [Tab.get_put_ne (.inl xg.symm), if_pos rfl, Tab.get_put_ne (.inl xg.symm)]
      by_cases hc : q.1 = x.b ∧ q.2 + 3 = 3
      · obtain ⟨qb, qo⟩ := q
        obtain ⟨rfl, hc⟩ := hc
        have : qo = 0 := by omega
        subst this
        obtain ⟨u, hu⟩ := h6
        exact ⟨_, mend_prev hu h7⟩
      · exact ⟨_, (mend_get (fun h => px h.1) hc).trans h1⟩
    · unfold outT
      rw [Tab.get_put_ne (.inl xg.symm), if_pos rfl, Tab.get_put_ne (.inl xg.symm)]
      refine ⟨_, (mend_get (fun h => px h.1) ?_).trans h2⟩
      rintro ⟨e1, e2⟩
      rcases h4 with rfl | ⟨y, hy, rfl⟩
      · exact xg e1.symm
      · simp only [Th.nd] at e2; omega
/-- What the walk of 'put' wants, and what it leaves. -/
theorem rep_put {T : Tab} {g mb : Nat} {F : Int → Value} {most : Int} {tt kk : List Th} {x : Th} {kp : Bool} (R : Rep T g mb F most tt kk) (Lx : Loose T x kp) (xg : x.b ≠ g) (xn : x.b ∉ ids (tt ++ kk)) (hx : ∀ y ∈ tt ++ kk, y.k ≠ x.k) :
    ∃ p : Nd, T.get (g, if kp then 6 else 1).1 ((g, if kp then 6 else 1).2 + 3) = some (ptr p) ∧ (∃ u, T.get p.1 (p.2 + 4) = some u) ∧ p.1 ≠ x.b ∧ ¬(p.1 = (g, if kp then 6 else 1).1 ∧ p.2 + 4 = (g, if kp then 6 else 1).2 + 3) ∧ p.2 ≤ 6 ∧
      Rep (putT T (g, if kp then 6 else 1) p x.b g kp (sum (kvs kk)) x.n (sum (kvs tt) + sum (kvs kk))) g mb (fun k => if k = x.k then .pointer (some ⟨x.b, 0, none⟩) else F k) most (if kp then tt else tt ++ [x]) (if kp then kk ++ [x] else kk) := by
  obtain ⟨gt, gk, tk, ndt, ndk⟩ := nd_parts R.nd
  obtain ⟨c0, c1, c2, ⟨u3, c3⟩, ⟨u4, c4⟩⟩ := Lx
  have xt : ∀ y ∈ tt, y.b ≠ x.b := fun y hy e => xn (by rw [← e]; exact ids_mem (by simp [hy]))
  have xk : ∀ y ∈ kk, y.b ≠ x.b := fun y hy e => xn (by rw [← e]; exact ids_mem (by simp [hy]))
  have F1 : ∀ y ∈ tt ++ kk, (if y.k = x.k then Value.pointer (some ⟨x.b, 0, none⟩) else F y.k) = ptr y.nd := fun y hy => by rw [if_neg (hx y hy)]; exact R.fm y hy
  have F2 : (if x.k = x.k then Value.pointer (some ⟨x.b, 0, none⟩) else F x.k) = ptr x.nd := by rw [if_pos rfl]; rfl
  have F3 : ∀ k, k ≠ x.k → (∀ y ∈ tt ++ kk, y.k ≠ k) → (if k = x.k then Value.pointer (some ⟨x.b, 0, none⟩) else F k) = .pointer none := fun k e hk => by rw [if_neg e]; exact R.fn k hk
  have ndx : (g :: ids (x :: (tt ++ kk))).Nodup := by
    have := R.nd
    simp only [ids, List.map_cons, List.nodup_cons, List.mem_cons, not_or] at this ⊢
    exact ⟨⟨xg.symm, this.1⟩, xn, this.2⟩
  cases kp with
  | false =>
    simp only [if_false, Bool.false_eq_true]
    have ndt1 : (g :: ids (tt ++ [x])).Nodup := by
      have hp : (tt ++ [x]).Perm (x :: tt) := List.perm_append_comm
      refine ((hp.map fun z : Th => z.b).cons g).nodup_iff.2 ?_
      rw [List.nodup_cons] at ndt
      rw [List.map_cons, List.nodup_cons, List.nodup_cons, List.mem_cons, not_or]
      exact ⟨⟨xg.symm, ndt.1⟩, fun h => by obtain ⟨y, hy, e⟩ := List.mem_map.1 h; exact xt y hy e, ndt.2⟩
    obtain ⟨p, h1, h2, h3, h4⟩ := seg_put (end1 g) R.rt ndt1 c3 c4
    have hp : In (g, 1) tt p := h3
    have pl := hp.le (by simp)
    have px : p.1 ≠ x.b := by
      rcases h3 with rfl | ⟨y, hy, rfl⟩
      · exact xg.symm
      · exact xt y hy
    have ppe : ¬(p.1 = g ∧ p.2 + 4 = 1 + 3) := by
      rintro ⟨e1, e2⟩
      rcases h3 with rfl | ⟨y, hy, rfl⟩
      · simp at e2
      · exact gt y hy e1
    have other := seg_lay_other (b := x.b) (end1 g) (end6 g) (by simp) gt gk tk hp xg xk R.rk
    have hg0 : ∀ o b, o ≤ 2 → (putT T (g, 1) p x.b g false (sum (kvs kk)) x.n (sum (kvs tt) + sum (kvs kk))).get b o = T.get b o := fun o b ho => by
      unfold putT
      rw [Tab.get_put_ne (.inr (by omega))]
      exact lay_safe pl (by simp) (.inl ho)
    have hs : sum (kvs tt) + sum (kvs kk) + x.n = sum (kvs (tt ++ [x])) + sum (kvs kk) := by
      simp only [kvs, List.map_append, List.map_cons, List.map_nil, sum_append, sum_cons, sum_nil, Th.kv]; omega
    refine ⟨p, h1, h2, px, ppe, pl, ⟨?_, ?_, ?_, ?_, ?_, ?_, ?_, ?_, ?_, ?_, ?_⟩⟩
    · rw [hg0 _ _ (by decide)]; exact R.room
    · unfold putT; rw [Tab.get_put_ne (.inr (by decide))]; exact (lay_safe pl (by simp) (.inr (by decide))).trans R.at_
    · unfold putT; rw [hs]; exact Tab.get_put_same (u := .int .i64 (sum (kvs tt) + sum (kvs kk))) ((lay_safe pl (by simp) (.inr (by decide))).trans R.all_)
    · unfold putT; rw [Tab.get_put_ne (.inr (by decide))]; exact (lay_safe pl (by simp) (.inr (by decide))).trans R.held
    · unfold putT; exact seg_put_hi (by decide) (by simp) (by simp) h4
    · unfold putT; exact seg_put_hi (by decide) (by simp) (by simp) other
    · have hpm : ((tt ++ [x]) ++ kk).Perm (x :: (tt ++ kk)) := by rw [List.append_assoc]; exact List.perm_middle
      exact ((hpm.map fun z : Th => z.b).cons g).nodup_iff.2 ndx
    · intro y hy
      rw [hg0 _ _ (by decide), hg0 _ _ (by decide), hg0 _ _ (by decide)]
      rcases List.mem_append.1 hy with hy | hy
      · exact R.ct y hy
      · simp at hy; subst hy; exact ⟨c0, c1, c2⟩
    · intro y hy
      rw [hg0 _ _ (by decide), hg0 _ _ (by decide), hg0 _ _ (by decide)]
      exact R.ck y hy
    · intro y hy
      by_cases e : y = x
      · subst e; exact F2
      · exact F1 y (by simp at hy ⊢; grind)
    · intro k hk
      exact F3 k (fun e => hk x (by simp) e.symm) (fun y hy => hk y (by simp at hy ⊢; grind))
  | true =>
    simp only [if_true]
    have ndk1 : (g :: ids (kk ++ [x])).Nodup := by
      have hp : (kk ++ [x]).Perm (x :: kk) := List.perm_append_comm
      refine ((hp.map fun z : Th => z.b).cons g).nodup_iff.2 ?_
      rw [List.nodup_cons] at ndk
      rw [List.map_cons, List.nodup_cons, List.nodup_cons, List.mem_cons, not_or]
      exact ⟨⟨xg.symm, ndk.1⟩, fun h => by obtain ⟨y, hy, e⟩ := List.mem_map.1 h; exact xk y hy e, ndk.2⟩
    obtain ⟨p, h1, h2, h3, h4⟩ := seg_put (end6 g) R.rk ndk1 c3 c4
    have hp : In (g, 6) kk p := h3
    have pl := hp.le (by simp)
    have px : p.1 ≠ x.b := by
      rcases h3 with rfl | ⟨y, hy, rfl⟩
      · exact xg.symm
      · exact xk y hy
    have ppe : ¬(p.1 = g ∧ p.2 + 4 = 6 + 3) := by
      rintro ⟨e1, e2⟩
      rcases h3 with rfl | ⟨y, hy, rfl⟩
      · simp at e2
      · exact gk y hy e1
    have other := seg_lay_other (b := x.b) (end6 g) (end1 g) (by simp) gk gt (fun y hy z hz e => tk z hz y hy e.symm) hp xg xt R.rt
    have hg0 : ∀ o b, o ≤ 2 → (putT T (g, 6) p x.b g true (sum (kvs kk)) x.n (sum (kvs tt) + sum (kvs kk))).get b o = T.get b o := fun o b ho => by
      unfold putT
      rw [Tab.get_put_ne (.inr (by omega)), if_pos rfl, Tab.get_put_ne (.inr (by omega))]
      exact lay_safe pl (by simp) (.inl ho)
    have hs : sum (kvs tt) + sum (kvs kk) + x.n = sum (kvs tt) + sum (kvs (kk ++ [x])) := by
      simp only [kvs, List.map_append, List.map_cons, List.map_nil, sum_append, sum_cons, sum_nil, Th.kv]; omega
    have hs2 : sum (kvs kk) + x.n = sum (kvs (kk ++ [x])) := by
      simp only [kvs, List.map_append, List.map_cons, List.map_nil, sum_append, sum_cons, sum_nil, Th.kv]; omega
    refine ⟨p, h1, h2, px, ppe, pl, ⟨?_, ?_, ?_, ?_, ?_, ?_, ?_, ?_, ?_, ?_, ?_⟩⟩
    · rw [hg0 _ _ (by decide)]; exact R.room
    · unfold putT; rw [Tab.get_put_ne (.inr (by decide)), if_pos rfl, Tab.get_put_ne (.inr (by decide))]; exact (lay_safe pl (by simp) (.inr (by decide))).trans R.at_
    · unfold putT; rw [hs, if_pos rfl]; exact Tab.get_put_same (u := .int .i64 (sum (kvs tt) + sum (kvs kk))) (by rw [Tab.get_put_ne (.inr (by decide))]; exact (lay_safe pl (by simp) (.inr (by decide))).trans R.all_)
    · unfold putT; rw [Tab.get_put_ne (.inr (by decide)), if_pos rfl, hs2]; exact Tab.get_put_same (u := .int .i64 (sum (kvs kk))) ((lay_safe pl (by simp) (.inr (by decide))).trans R.held)
    · unfold putT; rw [if_pos rfl]; exact seg_put_hi (by decide) (by simp) (by simp) (seg_put_hi (by decide) (by simp) (by simp) other)
    · unfold putT; rw [if_pos rfl]; exact seg_put_hi (by decide) (by simp) (by simp) (seg_put_hi (by decide) (by simp) (by simp) h4)
    · have hpm : (tt ++ (kk ++ [x])).Perm (x :: (tt ++ kk)) := by rw [← List.append_assoc]; exact List.perm_append_comm
      exact ((hpm.map fun z : Th => z.b).cons g).nodup_iff.2 ndx
    · intro y hy
      rw [hg0 _ _ (by decide), hg0 _ _ (by decide), hg0 _ _ (by decide)]
      exact R.ct y hy
    · intro y hy
      rw [hg0 _ _ (by decide), hg0 _ _ (by decide), hg0 _ _ (by decide)]
      rcases List.mem_append.1 hy with hy | hy
      · exact R.ck y hy
      · simp at hy; subst hy; exact ⟨c0, c1, c2⟩
    · intro y hy
      by_cases e : y = x
      · subst e; exact F2
      · exact F1 y (by simp at hy ⊢; grind)
    · intro k hk
      exact F3 k (fun e => hk x (by simp) e.symm) (fun y hy => hk y (by simp at hy ⊢; grind))
end Lr
end Go.Proofs.Ytkkgajlddlnghaa

/- Rings of things in a table of blocks: a thing out of its ring, a thing put at a ring's front. No program in sight. -/
import Derived.Test.YtkkgajlddlnghaaLa
namespace Go.Proofs.Ytkkgajlddlnghaa
set_option linter.unusedVariables false
set_option linter.unusedSimpArgs false
set_option linter.unnecessarySimpa false
namespace Lr
theorem ne_or {a b c d : Nat} (h : ¬(a = b ∧ c = d)) : a ≠ b ∨ c ≠ d := by
  by_cases e : a = b
  · exact .inr fun h' => h ⟨e, h'⟩
  · exact .inl e
theorem ne_or' {a b c d : Nat} (h : ¬(b = a ∧ d = c)) : a ≠ b ∨ c ≠ d := ne_or fun ⟨h1, h2⟩ => h ⟨h1.symm, h2.symm⟩
structure Th where
  b : Nat
  k : Int
  n : Int
def Th.kv (x : Th) : KV := (x.k, x.n)
abbrev Nd := Nat × Nat
def ptr (p : Nd) : Value := .pointer (some ⟨p.1, p.2, none⟩)
def Th.nd (x : Th) : Nd := (x.b, 0)
/-- Things between two ends, each of which tells the next one and the one ahead. -/
def Seg (T : Tab) : Nd → List Th → Nd → Prop
  | a, [], e => T.get a.1 (a.2 + 4) = some (ptr e) ∧ T.get e.1 (e.2 + 3) = some (ptr a)
  | a, x :: l, e => T.get a.1 (a.2 + 4) = some (ptr x.nd) ∧ T.get x.b 3 = some (ptr a) ∧ Seg T x.nd l e
theorem seg_append {T : Tab} {x : Th} {m : List Th} {e : Nd} : ∀ {l : List Th} {a : Nd}, Seg T a (l ++ x :: m) e ↔ Seg T a l x.nd ∧ Seg T x.nd m e
  | [], a => by
    show (_ ∧ _ ∧ _) ↔ ((_ ∧ _) ∧ _)
    simp only [Th.nd, Nat.zero_add]
    exact ⟨fun ⟨h1, h2, h3⟩ => ⟨⟨h1, h2⟩, h3⟩, fun ⟨⟨h1, h2⟩, h3⟩ => ⟨h1, h2, h3⟩⟩
  | y :: l, a => by
    show (_ ∧ _ ∧ Seg T y.nd (l ++ x :: m) e) ↔ ((_ ∧ _ ∧ Seg T y.nd l x.nd) ∧ _)
    rw [seg_append (l := l)]
    exact ⟨fun ⟨h1, h2, h3, h4⟩ => ⟨⟨h1, h2, h3⟩, h4⟩, fun ⟨⟨h1, h2, h3⟩, h4⟩ => ⟨h1, h2, h3, h4⟩⟩
theorem seg_frame {T T' : Tab} {e : Nd} : ∀ {l : List Th} {a : Nd}, Seg T a l e → (∀ p, p = a ∨ (∃ x ∈ l, p = x.nd) → T'.get p.1 (p.2 + 4) = T.get p.1 (p.2 + 4)) → (∀ p, p = e ∨ (∃ x ∈ l, p = x.nd) → T'.get p.1 (p.2 + 3) = T.get p.1 (p.2 + 3)) → Seg T' a l e
  | [], a, h, h4, h3 => ⟨(h4 a (.inl rfl)).trans h.1, (h3 e (.inl rfl)).trans h.2⟩
  | x :: l, a, h, h4, h3 => by
    obtain ⟨k1, k2, k3⟩ := h
    refine ⟨(h4 a (.inl rfl)).trans k1, ?_, seg_frame k3 (fun p hp => h4 p (.inr ?_)) (fun p hp => h3 p ?_)⟩
    · have := h3 x.nd (.inr ⟨x, by simp, rfl⟩)
      simp only [Th.nd, Nat.zero_add] at this
      rw [this]; exact k2
    · rcases hp with rfl | ⟨y, hy, rfl⟩
      · exact ⟨x, by simp, rfl⟩
      · exact ⟨y, by simp [hy], rfl⟩
    · rcases hp with rfl | ⟨y, hy, rfl⟩
      · exact .inl rfl
      · exact .inr ⟨y, by simp [hy], rfl⟩
theorem seg_last {T : Tab} {e a : Nd} {l : List Th} (h : Seg T a l e) : ∃ p, T.get e.1 (e.2 + 3) = some (ptr p) ∧ T.get p.1 (p.2 + 4) = some (ptr e) ∧ ((l = [] ∧ p = a) ∨ ∃ l' y, l = l' ++ [y] ∧ p = y.nd) := by
  rcases List.eq_nil_or_concat l with rfl | ⟨l', y, rfl⟩
  · exact ⟨a, h.2, h.1, .inl ⟨rfl, rfl⟩⟩
  · rw [List.concat_eq_append] at h ⊢
    rw [seg_append] at h
    exact ⟨y.nd, h.2.2, h.2.1, .inr ⟨l', y, rfl, rfl⟩⟩
theorem seg_head {T : Tab} {e a : Nd} {l : List Th} (h : Seg T a l e) : ∃ n, T.get a.1 (a.2 + 4) = some (ptr n) ∧ T.get n.1 (n.2 + 3) = some (ptr a) ∧ ((l = [] ∧ n = e) ∨ ∃ y l', l = y :: l' ∧ n = y.nd) := by
  cases l with
  | nil => exact ⟨e, h.1, h.2, .inl ⟨rfl, rfl⟩⟩
  | cons y l => exact ⟨y.nd, h.1, by simpa [Th.nd] using h.2.1, .inr ⟨y, l, rfl, rfl⟩⟩
/-- The two places that a ring's mending writes. -/
def mend (T : Tab) (p n : Nd) : Tab := (T.put p.1 (p.2 + 4) (ptr n)).put n.1 (n.2 + 3) (ptr p)
theorem mend_get {T : Tab} {p n : Nd} {b o : Nat} (h1 : ¬(p.1 = b ∧ p.2 + 4 = o)) (h2 : ¬(n.1 = b ∧ n.2 + 3 = o)) : (mend T p n).get b o = T.get b o := by
  unfold mend
  rw [Tab.get_put_ne (ne_or h2), Tab.get_put_ne (ne_or h1)]
theorem mend_next {T : Tab} {p n : Nd} {u u' : Value} (h1 : T.get p.1 (p.2 + 4) = some u) (h : ¬(n.1 = p.1 ∧ n.2 + 3 = p.2 + 4)) : (mend T p n).get p.1 (p.2 + 4) = some (ptr n) := by
  unfold mend
  rw [Tab.get_put_ne (ne_or h)]
  exact Tab.get_put_same h1
theorem mend_prev {T : Tab} {p n : Nd} {u : Value} (h1 : T.get n.1 (n.2 + 3) = some u) (h : ¬(n.1 = p.1 ∧ n.2 + 3 = p.2 + 4)) : (mend T p n).get n.1 (n.2 + 3) = some (ptr p) := by
  unfold mend
  have h2 : (T.put p.1 (p.2 + 4) (ptr n)).get n.1 (n.2 + 3) = some u := by
    rw [Tab.get_put_ne (ne_or' h)]
    exact h1
  exact Tab.get_put_same h2
/-- A ring's end: in a block of its own, at one of two places. -/
def IsEnd (g : Nat) (e : Nd) : Prop := e.1 = g ∧ (e.2 = 1 ∨ e.2 = 6)
def ids (l : List Th) : List Nat := l.map (·.b)
theorem ids_app (l m : List Th) : ids (l ++ m) = ids l ++ ids m := by unfold ids; simp
theorem ids_mem {l : List Th} {x : Th} (h : x ∈ l) : x.b ∈ ids l := List.mem_map.2 ⟨x, h, rfl⟩
/-- A ring without one of its things. -/
theorem seg_out {T : Tab} {g : Nat} {e : Nd} {A B : List Th} {x : Th} (hE : IsEnd g e) (h : Seg T e (A ++ x :: B) e) (hn : (g :: ids (A ++ x :: B)).Nodup) :
    ∃ p n, T.get x.b 3 = some (ptr p) ∧ T.get x.b 4 = some (ptr n) ∧ (p = e ∨ ∃ y ∈ A, p = y.nd) ∧ (n = e ∨ ∃ y ∈ B, n = y.nd) ∧ (∃ u, T.get p.1 (p.2 + 4) = some u) ∧ (∃ u, T.get n.1 (n.2 + 3) = some u) ∧ ¬(n.1 = p.1 ∧ n.2 + 3 = p.2 + 4) ∧ Seg (mend T p n) e (A ++ B) e := by
  obtain ⟨hA, hB⟩ := seg_append.1 h
  obtain ⟨p, p1, p2, p3⟩ := seg_last hA
  obtain ⟨n, n1, n2, n3⟩ := seg_head hB
  simp only [Th.nd, Nat.zero_add] at p1 n1
  rw [ids_app] at hn
  simp only [ids, List.map_cons, List.nodup_cons, List.mem_append, List.mem_cons, not_or, List.nodup_append] at hn
  obtain ⟨⟨hgA, hgx, hgB⟩, hndA, ⟨hxB, hndB⟩, hAB⟩ := hn
  have gA : ∀ y ∈ A, y.b ≠ g := fun y hy e => hgA (List.mem_map.2 ⟨y, hy, e⟩)
  have gB : ∀ y ∈ B, y.b ≠ g := fun y hy e => hgB (List.mem_map.2 ⟨y, hy, e⟩)
  have xA : ∀ y ∈ A, y.b ≠ x.b := fun y hy e => hAB y.b (List.mem_map.2 ⟨y, hy, rfl⟩) x.b (by simp) e
  have xB : ∀ y ∈ B, y.b ≠ x.b := fun y hy e => hxB (List.mem_map.2 ⟨y, hy, e⟩)
  have ab : ∀ y ∈ A, ∀ z ∈ B, y.b ≠ z.b := fun y hy z hz e => hAB y.b (List.mem_map.2 ⟨y, hy, rfl⟩) z.b (.inr (List.mem_map.2 ⟨z, hz, rfl⟩)) e
  obtain ⟨e1, e2⟩ := hE
  have hpc : p = e ∨ ∃ y ∈ A, p = y.nd := by
    rcases p3 with ⟨_, rfl⟩ | ⟨l', y, rfl, rfl⟩
    · exact .inl rfl
    · exact .inr ⟨y, by simp, rfl⟩
  have hnc : n = e ∨ ∃ y ∈ B, n = y.nd := by
    rcases n3 with ⟨_, rfl⟩ | ⟨y, l', rfl, rfl⟩
    · exact .inl rfl
    · exact .inr ⟨y, by simp, rfl⟩
  have hpn : ¬(n.1 = p.1 ∧ n.2 + 3 = p.2 + 4) := by
    rintro ⟨q1, q2⟩
    rcases hpc with rfl | ⟨y, hy, rfl⟩
    · rcases hnc with rfl | ⟨z, hz, rfl⟩
      · omega
      · simp only [Th.nd] at q1; exact gB z hz (q1.trans e1)
    · rcases hnc with rfl | ⟨z, hz, rfl⟩
      · simp only [Th.nd] at q1; exact gA y hy (q1.symm.trans e1)
      · simp only [Th.nd] at q1; exact ab y hy z hz q1.symm
  refine ⟨p, n, p1, n1, hpc, hnc, ⟨_, p2⟩, ⟨_, n2⟩, hpn, ?_⟩
  have Mn := mend_next p2 hpn (u' := ptr n)
  have Mp := mend_prev n2 hpn
  -- all other places stay
  have keepN : ∀ q : Nd, q ≠ p → (q = e ∨ (∃ y ∈ A, q = y.nd) ∨ ∃ y ∈ B, q = y.nd) → (mend T p n).get q.1 (q.2 + 4) = T.get q.1 (q.2 + 4) := by
    intro q hq hc
    refine mend_get ?_ ?_
    · rintro ⟨q1, q2⟩
      exact hq (Prod.ext q1.symm (by omega))
    · rintro ⟨q1, q2⟩
      rcases hc with rfl | ⟨y, hy, rfl⟩ | ⟨y, hy, rfl⟩ <;> rcases hnc with rfl | ⟨z, hz, rfl⟩ <;> simp only [Th.nd] at q1 q2
      · omega
      · exact gB z hz (q1.trans e1)
      · exact gA y hy (q1.symm.trans e1)
      · omega
      · exact gB y hy (q1.symm.trans e1)
      · omega
  have keepP : ∀ q : Nd, q ≠ n → (q = e ∨ (∃ y ∈ A, q = y.nd) ∨ ∃ y ∈ B, q = y.nd) → (mend T p n).get q.1 (q.2 + 3) = T.get q.1 (q.2 + 3) := by
    intro q hq hc
    refine mend_get ?_ ?_
    · rintro ⟨q1, q2⟩
      rcases hc with rfl | ⟨y, hy, rfl⟩ | ⟨y, hy, rfl⟩ <;> rcases hpc with rfl | ⟨z, hz, rfl⟩ <;> simp only [Th.nd] at q1 q2
      · omega
      · exact gA z hz (q1.trans e1)
      · exact gA y hy (q1.symm.trans e1)
      · omega
      · exact gB y hy (q1.symm.trans e1)
      · omega
    · rintro ⟨q1, q2⟩
      exact hq (Prod.ext q1.symm (by omega))
  have neE : ∀ y : Th, y.b ≠ g → y.nd ≠ e := fun y hy h => hy (by rw [← e1, ← h]; rfl)
  -- the part ahead of p
  have nd_ne : ∀ {y z : Th}, y.b ≠ z.b → y.nd ≠ z.nd := fun h e => h (by injection e)
  have HB : ∀ z B', B = z :: B' → n = z.nd → Seg (mend T p n) z.nd B' e := by
    rintro z B' rfl rfl
    have := hB.2.2
    have zB' : ∀ y ∈ B', y.b ≠ z.b := fun y hy e => by
      rw [List.map_cons, List.nodup_cons] at hndB
      exact hndB.1 (List.mem_map.2 ⟨y, hy, e⟩)
    refine seg_frame this (fun q hq => keepN q ?_ ?_) (fun q hq => keepP q ?_ ?_)
    · rcases hq with rfl | ⟨y, hy, rfl⟩ <;> rcases hpc with rfl | ⟨w, hw, rfl⟩
      · exact neE z (gB z (by simp))
      · exact nd_ne (fun e => ab w hw z (by simp) e.symm)
      · exact neE y (gB y (by simp [hy]))
      · exact nd_ne (fun e => ab w hw y (by simp [hy]) e.symm)
    · rcases hq with rfl | ⟨y, hy, rfl⟩
      · exact .inr (.inr ⟨z, by simp, rfl⟩)
      · exact .inr (.inr ⟨y, by simp [hy], rfl⟩)
    · rcases hq with rfl | ⟨y, hy, rfl⟩
      · exact fun h => neE z (gB z (by simp)) h.symm
      · exact nd_ne (zB' y hy)
    · rcases hq with rfl | ⟨y, hy, rfl⟩
      · exact .inl rfl
      · exact .inr (.inr ⟨y, by simp [hy], rfl⟩)
  rcases p3 with ⟨rfl, rfl⟩ | ⟨A', y, rfl, rfl⟩
  · rcases n3 with ⟨rfl, rfl⟩ | ⟨z, B', rfl, rfl⟩
    · exact ⟨Mn, Mp⟩
    · refine ⟨Mn, by simpa [Th.nd] using Mp, HB z B' rfl rfl⟩
  · have hA' := (seg_append.1 hA).1
    have yA' : ∀ w ∈ A', w.b ≠ y.b := fun w hw e => by
      rw [List.map_append, List.nodup_append] at hndA
      exact hndA.2.2 w.b (List.mem_map.2 ⟨w, hw, rfl⟩) y.b (by simp) e
    have HA : Seg (mend T y.nd n) e A' y.nd := by
      refine seg_frame hA' (fun q hq => keepN q ?_ ?_) (fun q hq => keepP q ?_ ?_)
      · rcases hq with rfl | ⟨w, hw, rfl⟩
        · exact fun h => neE y (gA y (by simp)) h.symm
        · exact nd_ne (yA' w hw)
      · rcases hq with rfl | ⟨w, hw, rfl⟩
        · exact .inl rfl
        · exact .inr (.inl ⟨w, by simp [hw], rfl⟩)
      · rcases hq with rfl | ⟨w, hw, rfl⟩ <;> rcases hnc with rfl | ⟨z, hz, rfl⟩
        · exact neE y (gA y (by simp))
        · exact nd_ne (ab y (by simp) z hz)
        · exact neE w (gA w (by simp [hw]))
        · exact nd_ne (ab w (by simp [hw]) z hz)
      · rcases hq with rfl | ⟨w, hw, rfl⟩
        · exact .inr (.inl ⟨y, by simp, rfl⟩)
        · exact .inr (.inl ⟨w, by simp [hw], rfl⟩)
    rw [List.append_assoc]
    refine seg_append.2 ⟨HA, ?_⟩
    rcases n3 with ⟨rfl, rfl⟩ | ⟨z, B', rfl, rfl⟩
    · exact ⟨by simpa [Th.nd] using Mn, Mp⟩
    · exact ⟨by simpa [Th.nd] using Mn, by simpa [Th.nd] using Mp, HB z B' rfl rfl⟩
/-- A loose thing put at a ring's front: what is written, in order. -/
def lay (T : Tab) (e p : Nd) (b : Nat) : Tab := (((T.put b 3 (ptr p)).put b 4 (ptr e)).put p.1 (p.2 + 4) (ptr (b, 0))).put e.1 (e.2 + 3) (ptr (b, 0))
theorem seg_put {T : Tab} {g : Nat} {e : Nd} {l : List Th} {x : Th} {u3 u4 : Value} (hE : IsEnd g e) (h : Seg T e l e) (hn : (g :: ids (l ++ [x])).Nodup) (h3 : T.get x.b 3 = some u3) (h4 : T.get x.b 4 = some u4) :
    ∃ p, T.get e.1 (e.2 + 3) = some (ptr p) ∧ (∃ u, T.get p.1 (p.2 + 4) = some u) ∧ (p = e ∨ ∃ y ∈ l, p = y.nd) ∧ Seg (lay T e p x.b) e (l ++ [x]) e := by
  obtain ⟨p, p1, p2, p3⟩ := seg_last h
  rw [ids_app] at hn
  simp only [ids, List.map_cons, List.map_nil, List.nodup_cons, List.mem_append, List.mem_cons, not_or, List.nodup_append, List.not_mem_nil, not_false_iff, and_true, or_false] at hn
  obtain ⟨⟨hgl, hgx⟩, hndl, _, hlx⟩ := hn
  have gl : ∀ y ∈ l, y.b ≠ g := fun y hy e => hgl (List.mem_map.2 ⟨y, hy, e⟩)
  have xl : ∀ y ∈ l, y.b ≠ x.b := fun y hy e => hlx y.b (List.mem_map.2 ⟨y, hy, rfl⟩) x.b (by simp) e
  obtain ⟨e1, e2⟩ := hE
  have hpc : p = e ∨ ∃ y ∈ l, p = y.nd := by
    rcases p3 with ⟨_, rfl⟩ | ⟨l', y, rfl, rfl⟩
    · exact .inl rfl
    · exact .inr ⟨y, by simp, rfl⟩
  have hpx : p.1 ≠ x.b := by
    rcases hpc with rfl | ⟨y, hy, rfl⟩
    · rw [e1]; exact hgx
    · exact xl y hy
  have hex : e.1 ≠ x.b := by rw [e1]; exact hgx
  have hpe : ¬(p.1 = e.1 ∧ p.2 + 4 = e.2 + 3) := by
    rintro ⟨q1, q2⟩
    rcases hpc with rfl | ⟨y, hy, rfl⟩
    · omega
    · exact gl y hy (q1.trans e1)
  refine ⟨p, p1, ⟨_, p2⟩, hpc, ?_⟩
  have other : ∀ b o, b ≠ x.b → ¬(p.1 = b ∧ p.2 + 4 = o) → ¬(e.1 = b ∧ e.2 + 3 = o) → (lay T e p x.b).get b o = T.get b o := by
    intro b o hb hp he
    unfold lay
    rw [Tab.get_put_ne (ne_or he), Tab.get_put_ne (ne_or hp), Tab.get_put_ne (.inl hb.symm), Tab.get_put_ne (.inl hb.symm)]
  have X3 : (lay T e p x.b).get x.b 3 = some (ptr p) := by
    unfold lay
    rw [Tab.get_put_ne (.inl hex), Tab.get_put_ne (.inl hpx), Tab.get_put_ne (.inr (by decide))]
    exact Tab.get_put_same h3
  have X4 : (lay T e p x.b).get x.b 4 = some (ptr e) := by
    unfold lay
    rw [Tab.get_put_ne (.inl hex), Tab.get_put_ne (.inl hpx)]
    exact Tab.get_put_same (u := u4) (by rw [Tab.get_put_ne (.inr (by decide))]; exact h4)
  have P4 : (lay T e p x.b).get p.1 (p.2 + 4) = some (ptr (x.b, 0)) := by
    unfold lay
    rw [Tab.get_put_ne (ne_or' hpe)]
    exact Tab.get_put_same (u := ptr e) (by rw [Tab.get_put_ne (.inl hpx.symm), Tab.get_put_ne (.inl hpx.symm)]; exact p2)
  have E3 : (lay T e p x.b).get e.1 (e.2 + 3) = some (ptr (x.b, 0)) := by
    unfold lay
    exact Tab.get_put_same (u := ptr p) (by
      rw [Tab.get_put_ne (ne_or hpe), Tab.get_put_ne (.inl hex.symm), Tab.get_put_ne (.inl hex.symm)]; exact p1)
  rcases p3 with ⟨rfl, rfl⟩ | ⟨l', y, rfl, rfl⟩
  · exact ⟨P4, X3, by simpa [Th.nd] using X4, E3⟩
  · have hl' := (seg_append.1 h).1
    have yl' : ∀ w ∈ l', w.b ≠ y.b := fun w hw e => by
      rw [List.map_append, List.nodup_append] at hndl
      exact hndl.2.2 w.b (List.mem_map.2 ⟨w, hw, rfl⟩) y.b (by simp) e
    have HA : Seg (lay T e y.nd x.b) e l' y.nd := by
      refine seg_frame hl' (fun q hq => other _ _ ?_ ?_ ?_) (fun q hq => other _ _ ?_ ?_ ?_)
      · rcases hq with rfl | ⟨w, hw, rfl⟩
        · exact hex
        · exact xl w (by simp [hw])
      · rintro ⟨q1, q2⟩
        rcases hq with rfl | ⟨w, hw, rfl⟩
        · exact gl y (by simp) (q1.trans e1)
        · exact yl' w hw q1.symm
      · rintro ⟨q1, q2⟩
        rcases hq with rfl | ⟨w, hw, rfl⟩
        · omega
        · exact gl w (by simp [hw]) (q1.symm.trans e1)
      · rcases hq with rfl | ⟨w, hw, rfl⟩
        · exact xl y (by simp)
        · exact xl w (by simp [hw])
      · rintro ⟨q1, q2⟩
        rcases hq with rfl | ⟨w, hw, rfl⟩ <;> simp only [Th.nd] at q1 q2
        · omega
        · omega
      · rintro ⟨q1, q2⟩
        rcases hq with rfl | ⟨w, hw, rfl⟩ <;> simp only [Th.nd] at q1 q2
        · exact gl y (by simp) (q1.symm.trans e1)
        · exact gl w (by simp [hw]) (q1.symm.trans e1)
    rw [List.append_assoc]
    refine seg_append.2 ⟨HA, ?_⟩
    exact ⟨by simpa [Th.nd] using P4, by simpa using X3, by simpa [Th.nd] using X4, E3⟩
end Lr
end Go.Proofs.Ytkkgajlddlnghaa

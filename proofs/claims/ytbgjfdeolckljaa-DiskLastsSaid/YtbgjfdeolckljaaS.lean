/- Slices of a call's own: make, append, a cell stored, over 'Own'. No program in sight. -/
import Derived.Test.YtbgjfdeolckljaaE
import Derived.Maps.AppendAt
import Derived.Laws.OwnMore
import Derived.Laws.MakeOwn
namespace Go.Proofs.Ytbgjfdeolckljaa
set_option linter.unusedVariables false
set_option linter.unusedSimpArgs false
set_option linter.unnecessarySimpa false
open Go.RowKit
section
variable {w0 w w' : World} {L : List Ent} {g g0 i : Nat} {p p0 p' : Obj → Prop}
theorem Own.cons (h : Own w0 w L) (hg : w0.heap.size ≤ g) (hne : ∀ x ∈ L, x.1 ≠ g) {o : Obj} (ho : w.heap[g]? = some o) (hp : p o) : Own w0 w ((g, p) :: L) := by
  refine ⟨h.below, ?_, ?_, ?_⟩
  · rw [List.map_cons, List.nodup_cons]
    refine ⟨fun hm => ?_, h.nodup⟩
    obtain ⟨x, hx, e⟩ := List.mem_map.1 hm
    exact hne x hx e
  · intro x hx
    rcases List.mem_cons.1 hx with rfl | hx
    · exact hg
    · exact h.base x hx
  · intro x hx
    rcases List.mem_cons.1 hx with rfl | hx
    · exact ⟨o, ho, hp⟩
    · exact h.at_ x hx
theorem Own.head_ne (h : Own w0 w ((g, p) :: L)) : ∀ x ∈ L, x.1 ≠ g := fun x hx e => by
  have := h.nodup
  rw [List.map_cons, List.nodup_cons] at this
  exact this.1 (List.mem_map.2 ⟨x, hx, e⟩)
theorem Own.kept (h : Own w0 w L) (hg : w.grownBy w' (some g0)) (h0 : w0.heap.size ≤ g0) (hne : ∀ x ∈ L, x.1 ≠ g0) : Own w0 w' L := by
  refine ⟨⟨hg.os.trans h.below.os, hg.tape.trans h.below.tape, hg.output.trans h.below.output, Nat.le_trans h.below.size hg.size, fun k hk => (hg.block k (Nat.lt_of_lt_of_le hk h.below.size) (fun e => ?_)).trans (h.below.block k hk)⟩, h.nodup, h.base, fun x hx => ?_⟩
  · injection e with e; omega
  · rw [hg.block x.1 (h.lt hx) (fun e => hne x hx (by injection e))]
    exact h.at_ x hx
theorem Own.still (h : Own w0 w L) (hg : w.grownBy w' none) : Own w0 w' L := by
  refine ⟨⟨hg.os.trans h.below.os, hg.tape.trans h.below.tape, hg.output.trans h.below.output, Nat.le_trans h.below.size hg.size, fun k hk => (hg.block k (Nat.lt_of_lt_of_le hk h.below.size) (by simp)).trans (h.below.block k hk)⟩, h.nodup, h.base, fun x hx => ?_⟩
  rw [hg.block x.1 (h.lt hx) (by simp)]
  exact h.at_ x hx
/-- The block at the head has turned, or another one has been made in its place. -/
theorem Own.regrown (h : Own w0 w ((g0, p0) :: L)) (hg : w.grownBy w' (some g0)) (ha : g = g0 ∨ g = w.heap.size) {o : Obj} (ho : w'.heap[g]? = some o) (hp : p o) : Own w0 w' ((g, p) :: L) := by
  have h0 := h.base (g0, p0) (by simp)
  refine (h.tail.kept hg h0 h.head_ne).cons ?_ ?_ ho hp
  · have := h.below.size
    rcases ha with rfl | rfl
    · exact h0
    · exact this
  · intro x hx e
    rcases ha with rfl | rfl
    · exact h.head_ne x hx e
    · have := h.tail.lt hx
      omega
theorem Own.born (h : Own w0 w L) (hg : w.grownBy w' none) (ha : g = w.heap.size) {o : Obj} (ho : w'.heap[g]? = some o) (hp : p o) : Own w0 w' ((g, p) :: L) := by
  refine (h.still hg).cons ?_ ?_ ho hp
  · have := h.below.size; omega
  · intro x hx e
    have := h.lt hx
    omega
/-- A row that is owned, as the kit's laws on append speak of it. -/
theorem Own.ownsRow {e : TypeId} {size cap n : Nat} {xs : List Value} (h : Own w0 w L) (hi : L[i]? = some (g, RowP e size cap xs)) (hl : xs.length = n * size) (hs : 0 < size) : w.ownsRow w0.heap.size e size (.slice (some ⟨g, 0, none⟩) n cap) n xs := by
  obtain ⟨o, ho, cur, rfl, hp, hc, hm⟩ := h.at_i i hi
  refine ⟨hl, .inr ⟨g, cap, cur, rfl, h.ge_i i hi, ho, ?_, hm, hc, ?_⟩⟩
  · have := hp.length_le
    simp only [Array.length_toList] at this
    rw [hc, hl] at this
    exact Nat.le_of_mul_le_mul_right this hs
  · rw [← hl]; exact (List.prefix_iff_eq_take.1 hp).symm
end
section
variable {P : Program} {ops : Array Oper} {rest : List Oper} {o : Oper} {a : Act} {Q : Exit → Act → World → Prop} {K : Act → World → Prop} {E : Prop} {w0 W : World} {L : List Ent}
/-- What the element's type is: its size in cells and in bytes, its zero. -/
structure Elem (P : Program) (t e : TypeId) (size bytes : Nat) (z : Value) : Prop where
  und : P.underlying t = some (.slice e)
  info : ∃ inf, P.info? e = some inf ∧ inf.zero = some z ∧ inf.size = size ∧ inf.bytes = bytes
  zcells : z.cells.size = size
  pos : 0 < size
theorem elem_mk {t e : TypeId} {size bytes : Nat} {z : Value} (hu : P.underlying t = some (.slice e)) (h : (P.info? e).map (fun i => (i.zero, i.size, i.bytes)) = some (some z, size, bytes)) (hz : z.cells.size = size) (hp : 0 < size) : Elem P t e size bytes z := by
  refine ⟨hu, ?_, hz, hp⟩
  cases hi : P.info? e with
  | none => rw [hi] at h; simp at h
  | some i =>
    rw [hi] at h
    simp at h
    exact ⟨i, rfl, h.1, h.2.1, h.2.2⟩
theorem row_of_owns {e : TypeId} {size n base : Nat} {v : Value} {xs : List Value} (h : W.ownsRow base e size v n xs) (hn : 0 < n) : ∃ g cap cur, v = .slice (some ⟨g, 0, none⟩) n cap ∧ n ≤ cap ∧ W.heap[g]? = some (.cells cur e (0, 0)) ∧ RowP e size cap xs (.cells cur e (0, 0)) := by
  rcases h.2 with ⟨_, h0⟩ | ⟨g, cap, cur, rfl, _, hg, hnc, hm, hc, ht⟩
  · omega
  · refine ⟨g, cap, cur, rfl, hnc, hg, cur, rfl, ?_, hc, hm⟩
    rw [← ht]; exact List.take_prefix _ _
theorem wp_append_nil {t e : TypeId} {s x : Operand} {z : Value} {size bytes : Nat} (hE : Elem P t e size bytes z) (ho : o.op = .call { callee := .builtin .append, args := #[s, x], argTypes := #[t, t] }) (hs : a.eval s = .slice none 0 0) (HO : Own w0 W L)
    {ad : Addr} {m c : Nat} {news : List Value} (hx : a.eval x = .slice (some ad) m c) (hl : news.length = m * size) (hnews : ∀ j u, news[j]? = some u → W.cell? (ad.add j) = some u) (h1 : ∀ u ∈ news, u.oneCell' = true) (hm : 0 < m) (h63 : m ≤ maxLen) (hb : m * bytes ≤ 140737488355328)
    (h : ∀ g cap w1, m ≤ cap → Own w0 w1 ((g, RowP e size cap news) :: L) → K (a.put o.dst (.slice (some ⟨g, 0, none⟩) m cap)) w1) : o.wp P a W K Q := by
  obtain ⟨inf, hi, hz, hsz, hby⟩ := hE.info
  obtain ⟨v', w', hr, h2, h3, _, h5⟩ := run_append_own_at (P := P) W w0.heap.size t o.type e inf z size bytes hE.und hi hz hsz hby hE.zcells hE.pos (.slice none 0 0) 0 [] (World.ownsRow_nil _ _ _ _) ad m c news hl hnews h1 (by omega) (by simpa using hb) HO.below.size
  rw [List.nil_append, Nat.zero_add] at h2
  obtain ⟨g, cap, cur, rfl, hnc, hg, hp⟩ := row_of_owns h2 hm
  have hgz : g = W.heap.size := by
    rcases h5 with h5 | h5
    · simp [Value.ownBlock] at h5
    · simpa [Value.ownBlock] using h5
  have HO1 : Own w0 w' ((g, RowP e size cap news) :: L) := HO.born h3 hgz hg hp
  unfold Oper.wp execOp
  simp only [ho, resolve, invoke, builtin, Sem.run_bind, Sem.run_pure, Result.andThen_ok, List.map_toArray, List.map_cons, List.map_nil, hs, hx, hr]
  exact h g cap w' hnc HO1
theorem wp_append_row (i : Nat) {t e : TypeId} {s x : Operand} {z : Value} {size bytes : Nat} (hE : Elem P t e size bytes z) (ho : o.op = .call { callee := .builtin .append, args := #[s, x], argTypes := #[t, t] }) {g n cap : Nat} {xs : List Value} (hs : a.eval s = .slice (some ⟨g, 0, none⟩) n cap) (HO : Own w0 W L)
    (hi : L[i]? = some (g, RowP e size cap xs)) (hlx : xs.length = n * size)
    {ad : Addr} {m c : Nat} {news : List Value} (hx : a.eval x = .slice (some ad) m c) (hl : news.length = m * size) (hnews : ∀ j u, news[j]? = some u → W.cell? (ad.add j) = some u) (h1 : ∀ u ∈ news, u.oneCell' = true) (hm : 0 < m) (h63 : n + m ≤ maxLen) (hb : (n + m) * bytes ≤ 140737488355328)
    (h : ∀ g cap w1, n + m ≤ cap → Own w0 w1 ((g, RowP e size cap (xs ++ news)) :: L.eraseIdx i) → K (a.put o.dst (.slice (some ⟨g, 0, none⟩) (n + m) cap)) w1) : o.wp P a W K Q := by
  obtain ⟨inf, hif, hz, hsz, hby⟩ := hE.info
  obtain ⟨v', w', hr, h2, h3, _, h5⟩ := run_append_own_at (P := P) W w0.heap.size t o.type e inf z size bytes hE.und hif hz hsz hby hE.zcells hE.pos _ n xs (HO.ownsRow hi hlx hE.pos) ad m c news hl hnews h1 h63 hb HO.below.size
  obtain ⟨g', cap', cur, rfl, hnc, hg, hp⟩ := row_of_owns h2 (by omega)
  have HO1 : Own w0 w' ((g', RowP e size cap' (xs ++ news)) :: L.eraseIdx i) := (HO.front i hi).regrown h3 (by
    rcases h5 with h5 | h5
    · left; simpa [Value.ownBlock] using h5
    · right; simpa [Value.ownBlock] using h5) hg hp
  unfold Oper.wp execOp
  simp only [ho, resolve, invoke, builtin, Sem.run_bind, Sem.run_pure, Result.andThen_ok, List.map_toArray, List.map_cons, List.map_nil, hs, hx, hr]
  exact h g' cap' w' hnc HO1
theorem Own.news {gn e size m : Nat} {news : List Value} (HO : Own w0 W ((gn, RowP e size m news) :: L)) : ∀ j u, news[j]? = some u → W.cell? ((⟨gn, 0, none⟩ : Addr).add j) = some u := fun j u hj => by
  have := HO.rowCell 0 rfl j hj
  unfold Addr.add
  split
  · subst_vars; exact this
  · simpa using this
/-- What was laid out just ahead goes behind a slice that holds nothing; behind one of the call's own. -/
theorem wp_append_nil1 {t e : TypeId} {s x : Operand} {z : Value} {size bytes : Nat} (hE : Elem P t e size bytes z) (ho : o.op = .call { callee := .builtin .append, args := #[s, x], argTypes := #[t, t] }) (hs : a.eval s = .slice none 0 0) {gn m : Nat} {news : List Value} (HO : Own w0 W ((gn, RowP e size m news) :: L))
    (hx : a.eval x = .slice (some ⟨gn, 0, none⟩) m m) (hl : news.length = m * size) (h1 : news.all (·.oneCell') = true) (hm : 0 < m) (h63 : m ≤ maxLen) (hb : m * bytes ≤ 140737488355328)
    (h : ∀ g cap w1, m ≤ cap → Own w0 w1 ((g, RowP e size cap news) :: L) → K (a.put o.dst (.slice (some ⟨g, 0, none⟩) m cap)) w1) : o.wp P a W K Q :=
  wp_append_nil hE ho hs HO hx hl HO.news (List.all_eq_true.1 h1) hm h63 hb fun g cap w1 hc k => h g cap w1 hc (k.sub (.cons_cons _ (.cons _ (List.Sublist.refl _))))
theorem wp_append_row1 (i : Nat) {t e : TypeId} {s x : Operand} {z : Value} {size bytes : Nat} (hE : Elem P t e size bytes z) (ho : o.op = .call { callee := .builtin .append, args := #[s, x], argTypes := #[t, t] }) {g n cap : Nat} {xs : List Value} (hs : a.eval s = .slice (some ⟨g, 0, none⟩) n cap) {gn m : Nat} {news : List Value} (HO : Own w0 W ((gn, RowP e size m news) :: L))
    (hi : L[i]? = some (g, RowP e size cap xs)) (hlx : xs.length = n * size)
    (hx : a.eval x = .slice (some ⟨gn, 0, none⟩) m m) (hl : news.length = m * size) (h1 : news.all (·.oneCell') = true) (hm : 0 < m) (h63 : n + m ≤ maxLen) (hb : (n + m) * bytes ≤ 140737488355328)
    (h : ∀ g cap w1, n + m ≤ cap → Own w0 w1 ((g, RowP e size cap (xs ++ news)) :: L.eraseIdx i) → K (a.put o.dst (.slice (some ⟨g, 0, none⟩) (n + m) cap)) w1) : o.wp P a W K Q :=
  wp_append_row (i + 1) hE ho hs HO (by simpa using hi) hlx hx hl HO.news (List.all_eq_true.1 h1) hm h63 hb fun g cap w1 hc k => h g cap w1 hc (k.sub (.cons_cons _ (by
    rw [List.eraseIdx_cons_succ]; exact .cons _ (List.Sublist.refl _))))
/-- A slice of so many zeros. -/
theorem wp_make {t e : TypeId} {x y : Operand} {z : Value} {bytes n : Nat} (hE : Elem P t e 1 bytes z) (ho : o.op = .makeSlice t x y) {k1 k2 : IntKind} (hx : a.eval x = .int k1 (n : Int)) (hy : a.eval y = .int k2 (n : Int)) (hb : bytes * n ≤ 281474976710656) (hm : n ≤ maxLen) (hz1 : z.cells = #[z]) (HO : Own w0 W L)
    (h : ∀ g w1, Own w0 w1 ((g, RowP e 1 n (List.replicate n z)) :: L) → K (a.put o.dst (.slice (some ⟨g, 0, none⟩) n n)) w1) : o.wp P a W K Q := by
  obtain ⟨inf, hi, hz, hsz, hby⟩ := hE.info
  have hml : maxLen = 9223372036854775807 := rfl
  have hb' : (inf.bytes : Int) * (n : Int) ≤ 281474976710656 := by
    rw [hby]
    have h : ((bytes * n : Nat) : Int) ≤ 281474976710656 := by omega
    rwa [Int.natCast_mul] at h
  have hr := run_make (P := P) W t e inf z hE.und hi hz k1 k2 n n (by omega) (Int.le_refl _) hb' (by omega)
  simp only [Int.toNat_natCast, hsz, Nat.mul_one] at hr
  have HO1 : Own w0 (W.alloc (.cells (madeCells z.cells n) e)) ((W.heap.size, RowP e 1 n (List.replicate n z)) :: L) := HO.alloc _ ⟨_, rfl, by
    have : (madeCells z.cells n).toList = List.replicate n z := by
      apply List.ext_getElem
      · simp [size_madeCells]
      · intro j h1 h2
        simp [madeCells, hz1, Nat.mod_one]
    rw [this]; exact List.prefix_refl _, by simp [size_madeCells], hm⟩
  refine wp_run ?_ (h _ _ HO1)
  unfold execOp
  simp only [ho, hx, hy, Sem.run_bind, Sem.run_pure, Result.andThen_ok, hr]
/-- A cell of a row of the call's own is stored. -/
theorem splice_set (xs : List Value) (off : Nat) (v : Value) (hf : off < xs.length) : splice xs off [v] = xs.set off v := by
  unfold splice
  rw [List.set_eq_take_append_cons_drop, if_pos hf]; rfl
theorem wp_storeRow (i : Nat) {t : TypeId} {x y : Operand} (ho : o.op = .store t x y) (hN : o.dst = none) {g off : Nat} (hx : a.eval x = .pointer (some ⟨g, off, none⟩)) (HO : Own w0 W L) {e : TypeId} {size cap : Nat} {xs : List Value} (hi : L[i]? = some (g, RowP e size cap xs))
    {v : Value} (hy : a.eval y = v) (h1 : v.oneCell' = true) (hc1 : v.cells.toList = [v]) (hf : off < xs.length) (hs : (P.info? t).map (·.size) = some 1)
    (h : ∀ w1, Own w0 w1 (L.set i (g, RowP e size cap (xs.set off v))) → K a w1) : o.wp P a W K Q := by
  have HO1 := HO.setRow i hi off [v] (by simp; omega)
  rw [splice_set xs off v hf] at HO1
  refine wp_skip hN (w1 := W.setCells g off [v]) ?_ (h _ HO1)
  unfold execOp
  simp only [ho, hx, hy, Instr.storeAt, Instr.sureAddr, Sem.run_bind, Sem.run_pure, Result.andThen_ok, run_storeVar_any (vs := [v]) hc1 (HO.thereRow i hi off 1 (by omega)) hs (by simp [h1])]
/-! The same at the list of a plain region, and at a step of a region that draws. -/
theorem li_storeRowInt (i : Nat) {t : TypeId} {x y : Operand} (ho : o.op = .store t x y) (hw : Region.wanted o (yielded ops a.tmps) = true) (hN : o.dst = none) {g off : Nat} (hx : a.eval x = .pointer (some ⟨g, off, none⟩)) (HO : Own w0 W L) {e : TypeId} {size cap : Nat} {xs : List Value} (hi : L[i]? = some (g, RowP e size cap xs))
    {k : IntKind} {n : Int} (hy : a.eval y = .int k n) (hf : off < xs.length) (hs : (P.info? t).map (·.size) = some 1)
    (h : ∀ w1, Own w0 w1 (L.set i (g, RowP e size cap (xs.set off (.int k n)))) → wpList P ops Q rest a w1) : wpList P ops Q (o :: rest) a W :=
  ev_list hw fun _ hK => wp_storeRow i ho hN hx HO hi hy rfl rfl hf hs fun w1 h1 => hK _ _ (h w1 h1)
theorem st_storeRowInt (i : Nat) {t : TypeId} {x y : Operand} (ho : o.op = .store t x y) (hw : Region.wanted o (yielded ops a.tmps) = true) (hN : o.dst = none) {g off : Nat} (hx : a.eval x = .pointer (some ⟨g, off, none⟩)) (HO : Own w0 W L) {e : TypeId} {size cap : Nat} {xs : List Value} (hi : L[i]? = some (g, RowP e size cap xs))
    {k : IntKind} {n : Int} (hy : a.eval y = .int k n) (hf : off < xs.length) (hs : (P.info? t).map (·.size) = some 1)
    (h : ∀ w1, Own w0 w1 (L.set i (g, RowP e size cap (xs.set off (.int k n)))) → K a w1) : if Region.wanted o (yielded ops a.tmps) = true then Oper.wp P o a W K Q else E :=
  ev_step hw (wp_storeRow i ho hN hx HO hi hy rfl rfl hf hs h)
theorem li_append_nil1 {t e : TypeId} {s x : Operand} {z : Value} {size bytes : Nat} (hE : Elem P t e size bytes z) (ho : o.op = .call { callee := .builtin .append, args := #[s, x], argTypes := #[t, t] }) (hw : Region.wanted o (yielded ops a.tmps) = true) (hs : a.eval s = .slice none 0 0) {gn m : Nat} {news : List Value} (HO : Own w0 W ((gn, RowP e size m news) :: L))
    (hx : a.eval x = .slice (some ⟨gn, 0, none⟩) m m) (hl : news.length = m * size) (h1 : news.all (·.oneCell') = true) (hm : 0 < m) (h63 : m ≤ maxLen) (hb : m * bytes ≤ 140737488355328)
    (h : ∀ g cap w1, m ≤ cap → Own w0 w1 ((g, RowP e size cap news) :: L) → wpList P ops Q rest (a.put o.dst (.slice (some ⟨g, 0, none⟩) m cap)) w1) : wpList P ops Q (o :: rest) a W :=
  ev_list hw fun _ hK => wp_append_nil1 hE ho hs HO hx hl h1 hm h63 hb fun g cap w1 hc k => hK _ _ (h g cap w1 hc k)
theorem st_append_nil1 {t e : TypeId} {s x : Operand} {z : Value} {size bytes : Nat} (hE : Elem P t e size bytes z) (ho : o.op = .call { callee := .builtin .append, args := #[s, x], argTypes := #[t, t] }) (hw : Region.wanted o (yielded ops a.tmps) = true) (hs : a.eval s = .slice none 0 0) {gn m : Nat} {news : List Value} (HO : Own w0 W ((gn, RowP e size m news) :: L))
    (hx : a.eval x = .slice (some ⟨gn, 0, none⟩) m m) (hl : news.length = m * size) (h1 : news.all (·.oneCell') = true) (hm : 0 < m) (h63 : m ≤ maxLen) (hb : m * bytes ≤ 140737488355328)
    (h : ∀ g cap w1, m ≤ cap → Own w0 w1 ((g, RowP e size cap news) :: L) → K (a.put o.dst (.slice (some ⟨g, 0, none⟩) m cap)) w1) : if Region.wanted o (yielded ops a.tmps) = true then Oper.wp P o a W K Q else E :=
  ev_step hw (wp_append_nil1 hE ho hs HO hx hl h1 hm h63 hb h)
theorem li_append_row1 (i : Nat) {t e : TypeId} {s x : Operand} {z : Value} {size bytes : Nat} (hE : Elem P t e size bytes z) (ho : o.op = .call { callee := .builtin .append, args := #[s, x], argTypes := #[t, t] }) (hw : Region.wanted o (yielded ops a.tmps) = true) {g n cap : Nat} {xs : List Value} (hs : a.eval s = .slice (some ⟨g, 0, none⟩) n cap) {gn m : Nat} {news : List Value} (HO : Own w0 W ((gn, RowP e size m news) :: L))
    (hi : L[i]? = some (g, RowP e size cap xs)) (hlx : xs.length = n * size)
    (hx : a.eval x = .slice (some ⟨gn, 0, none⟩) m m) (hl : news.length = m * size) (h1 : news.all (·.oneCell') = true) (hm : 0 < m) (h63 : n + m ≤ maxLen) (hb : (n + m) * bytes ≤ 140737488355328)
    (h : ∀ g cap w1, n + m ≤ cap → Own w0 w1 ((g, RowP e size cap (xs ++ news)) :: L.eraseIdx i) → wpList P ops Q rest (a.put o.dst (.slice (some ⟨g, 0, none⟩) (n + m) cap)) w1) : wpList P ops Q (o :: rest) a W :=
  ev_list hw fun _ hK => wp_append_row1 i hE ho hs HO hi hlx hx hl h1 hm h63 hb fun g cap w1 hc k => hK _ _ (h g cap w1 hc k)
theorem st_append_row1 (i : Nat) {t e : TypeId} {s x : Operand} {z : Value} {size bytes : Nat} (hE : Elem P t e size bytes z) (ho : o.op = .call { callee := .builtin .append, args := #[s, x], argTypes := #[t, t] }) (hw : Region.wanted o (yielded ops a.tmps) = true) {g n cap : Nat} {xs : List Value} (hs : a.eval s = .slice (some ⟨g, 0, none⟩) n cap) {gn m : Nat} {news : List Value} (HO : Own w0 W ((gn, RowP e size m news) :: L))
    (hi : L[i]? = some (g, RowP e size cap xs)) (hlx : xs.length = n * size)
    (hx : a.eval x = .slice (some ⟨gn, 0, none⟩) m m) (hl : news.length = m * size) (h1 : news.all (·.oneCell') = true) (hm : 0 < m) (h63 : n + m ≤ maxLen) (hb : (n + m) * bytes ≤ 140737488355328)
    (h : ∀ g cap w1, n + m ≤ cap → Own w0 w1 ((g, RowP e size cap (xs ++ news)) :: L.eraseIdx i) → K (a.put o.dst (.slice (some ⟨g, 0, none⟩) (n + m) cap)) w1) : if Region.wanted o (yielded ops a.tmps) = true then Oper.wp P o a W K Q else E :=
  ev_step hw (wp_append_row1 i hE ho hs HO hi hlx hx hl h1 hm h63 hb h)
theorem li_make {t e : TypeId} {x y : Operand} {z : Value} {bytes n : Nat} (hE : Elem P t e 1 bytes z) (ho : o.op = .makeSlice t x y) (hw : Region.wanted o (yielded ops a.tmps) = true) {k1 k2 : IntKind} (hx : a.eval x = .int k1 (n : Int)) (hy : a.eval y = .int k2 (n : Int)) (hb : bytes * n ≤ 281474976710656) (hm : n ≤ maxLen) (hz1 : z.cells = #[z]) (HO : Own w0 W L)
    (h : ∀ g w1, Own w0 w1 ((g, RowP e 1 n (List.replicate n z)) :: L) → wpList P ops Q rest (a.put o.dst (.slice (some ⟨g, 0, none⟩) n n)) w1) : wpList P ops Q (o :: rest) a W :=
  ev_list hw fun _ hK => wp_make hE ho hx hy hb hm hz1 HO fun g w1 k => hK _ _ (h g w1 k)
theorem st_make {t e : TypeId} {x y : Operand} {z : Value} {bytes n : Nat} (hE : Elem P t e 1 bytes z) (ho : o.op = .makeSlice t x y) (hw : Region.wanted o (yielded ops a.tmps) = true) {k1 k2 : IntKind} (hx : a.eval x = .int k1 (n : Int)) (hy : a.eval y = .int k2 (n : Int)) (hb : bytes * n ≤ 281474976710656) (hm : n ≤ maxLen) (hz1 : z.cells = #[z]) (HO : Own w0 W L)
    (h : ∀ g w1, Own w0 w1 ((g, RowP e 1 n (List.replicate n z)) :: L) → K (a.put o.dst (.slice (some ⟨g, 0, none⟩) n n)) w1) : if Region.wanted o (yielded ops a.tmps) = true then Oper.wp P o a W K Q else E :=
  ev_step hw (wp_make hE ho hx hy hb hm hz1 HO h)
theorem st_bslice (t : TypeId) (size : Nat) {e n : Nat} {parts : Array (Nat × Operand)} (ho : o.op = .buildSlice t n parts) (hw : Region.wanted o (yielded ops a.tmps) = true) {xs : List Value} (hrun : (execOp a.eval o).run P W = .ok (.value (.slice (some ⟨W.heap.size, 0, none⟩) n n)) (W.alloc (.cells ⟨xs⟩ e (0, 0)))) (hsz : xs.length = n * size) (hm : n ≤ maxLen) (HO : Own w0 W L)
    (h : ∀ g w1, Own w0 w1 ((g, RowP e size n xs) :: L) → K (a.put o.dst (.slice (some ⟨g, 0, none⟩) n n)) w1) : if Region.wanted o (yielded ops a.tmps) = true then Oper.wp P o a W K Q else E :=
  ev_step hw (wp_bslice hrun hsz hm HO fun g w1 h1 => h g w1 h1)
end
section
variable {P : Program} {ops : Array Oper} {rest : List Oper} {o : Oper} {a : Act} {Q : Exit → Act → World → Prop} {W : World}
/-- One place of an array that lies at hand. -/
theorem run_index_one {t e : TypeId} {n i : Nat} {vs : List Value} {k : IntKind} {v : Value} (hu : P.underlying t = some (.array n e)) (hs : (P.info? e).map (·.size) = some 1) (hue : (P.underlying e).isSome = true) (hd : rowB P e = false) (hi : i < n) (hv : vs[i]? = some v) :
    (Instr.index t (.agg ⟨vs⟩) (.int k (i : Int))).run P W = .ok v W := by
  have hsz : (sizeOf e).run P W = .ok 1 W := by
    cases hq : P.info? e with
    | none => rw [hq] at hs; cases hs
    | some j => rw [hq] at hs; simp at hs; simp [sizeOf, typeInfo, Sem.run_bind, hq, hs]
  have hagg : (isAgg e).run P W = .ok false W := by
    unfold rowB at hd
    cases he : P.underlying e with
    | none => rw [he] at hue; cases hue
    | some d =>
      rw [he] at hd
      unfold isAgg
      rw [Sem.run_bind, run_underlying he W]
      cases d <;> simp_all [TypeDesc.isRow]
  have hc : (0 : Int) ≤ (i : Int) ∧ (i : Int) < (n : Int) := by omega
  have hg : (⟨vs⟩ : Array Value)[i]? = some v := by simpa using hv
  unfold Instr.index
  simp [asIntOf, Sem.run_bind, run_underlying hu W, hc, hsz, part, hagg, hg]
  rw [if_pos hi, hv]
  rfl
theorem li_index (t e n i : Nat) {x y : Operand} {vs : List Value} {k : IntKind} {v : Value} (ho : o.op = .index t x y) (hw : Region.wanted o (yielded ops a.tmps) = true) (hx : a.eval x = .agg ⟨vs⟩) (hy : a.eval y = .int k (i : Int)) (hv : vs[i]? = some v) (hu : P.underlying t = some (.array n e)) (hs : (P.info? e).map (·.size) = some 1) (hue : (P.underlying e).isSome = true) (hd : rowB P e = false) (hi : i < n)
    (h : wpList P ops Q rest (a.put o.dst v) W) : wpList P ops Q (o :: rest) a W :=
  ev_list hw fun _ hK => wp_run (by unfold execOp; simp only [ho, hx, hy, Sem.run_bind, run_index_one hu hs hue hd hi hv, Result.andThen_ok, Sem.run_pure]) (hK _ _ h)
end
end Go.Proofs.Ytbgjfdeolckljaa

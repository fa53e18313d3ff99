/- A literal's row turned to its own type (a constant string's bytes): its block is marked, its cells stay. Over 'Own'. -/
import Derived.Test.YtbgjfdeolckljaaS
namespace Go.Proofs.Ytbgjfdeolckljaa
set_option linter.unusedVariables false
set_option linter.unusedSimpArgs false
set_option linter.unnecessarySimpa false
open Go.RowKit
/-- A block that reads as this, marked or not. -/
def RoP (e : TypeId) (xs : List Value) : Obj → Prop := fun o => ∃ (cur : Array Value) (fz : Nat × Nat), o = .cells cur e fz ∧ xs <+: cur.toList
section
variable {P : Program} {w0 W : World} {L : List Ent} {g : Nat} {xs : List Value} {e : TypeId}
theorem Own.roCell (h : Own w0 W L) (i : Nat) (hi : L[i]? = some (g, RoP e xs)) (j : Nat) {v : Value} (hj : xs[j]? = some v) : W.cell? ⟨g, j, none⟩ = some v := by
  obtain ⟨o, ho, cur, fz, rfl, hp⟩ := h.at_i i hi
  rw [cell_of_row W g j cur e fz ho]
  obtain ⟨ys, e⟩ := hp
  have : cur.toList[j]? = some v := by rw [← e, List.getElem?_append_left (List.getElem?_eq_some_iff.1 hj).1, hj]
  simpa using this
theorem Own.toRo (h : Own w0 W L) (i : Nat) {size cap : Nat} (hi : L[i]? = some (g, RowP e size cap xs)) : Own w0 W (L.set i (g, RoP e xs)) := by
  obtain ⟨o, ho, cur, rfl, hp, _⟩ := h.at_i i hi
  exact h.put i hi rfl rfl rfl (Nat.le_refl _) (fun _ _ _ => rfl) ho ⟨cur, (0, 0), rfl, hp⟩
theorem run_convSelf {t : TypeId} {size cap n c : Nat} (HO : Own w0 W L) (i : Nat) (hi : L[i]? = some (g, RowP e size cap xs)) (ht : P.underlying t = some (.slice e)) (he : P.underlying e = some (.int .u8)) :
    ∃ w1, (convert t t (.slice (some ⟨g, 0, none⟩) n c)).run P W = .ok (.slice (some ⟨g, 0, none⟩) n c) w1 ∧ Own w0 w1 (L.set i (g, RoP e xs)) := by
  obtain ⟨o, ho, cur, rfl, hp, _⟩ := HO.at_i i hi
  have hsh : W.shape? g = some (e, cur.size) := by unfold World.shape?; rw [ho]
  refine ⟨W.freeze ⟨g, cur.size, none⟩ 1, by simp [convert, run_underlying ht, run_underlying he, markStringish, hsh], ?_⟩
  have hlt : g < W.heap.size := (Array.getElem?_eq_some_iff.1 ho).1
  refine HO.put i hi (w1 := W.freeze ⟨g, cur.size, none⟩ 1) (o := .cells cur e (cur.size, cur.size + 1)) rfl rfl rfl (by simp [World.freeze]) (fun k _ hk => ?_) ?_ ⟨cur, _, rfl, hp⟩
  · simp [World.freeze, Array.getElem?_modify, Ne.symm hk]
  · simp [World.freeze, Array.getElem?_modify, ho]
end
section
variable {P : Program} {ops : Array Oper} {rest : List Oper} {o : Oper} {a : Act} {Q : Exit → Act → World → Prop} {K : Act → World → Prop} {E : Prop} {w0 W : World} {L : List Ent}
theorem wp_convSelf (i : Nat) (t e : TypeId) {x : Operand} {g size cap n c : Nat} {xs : List Value} (ho : o.op = .convert t t x) (hx : a.eval x = .slice (some ⟨g, 0, none⟩) n c) (HO : Own w0 W L) (hi : L[i]? = some (g, RowP e size cap xs)) (ht : P.underlying t = some (.slice e)) (he : P.underlying e = some (.int .u8))
    (h : ∀ w1, Own w0 w1 (L.set i (g, RoP e xs)) → K (a.put o.dst (.slice (some ⟨g, 0, none⟩) n c)) w1) : o.wp P a W K Q := by
  obtain ⟨w1, h1, h2⟩ := run_convSelf (P := P) (n := n) (c := c) HO i hi ht he
  refine wp_run ?_ (h w1 h2)
  unfold execOp
  simp only [ho, hx, Sem.run_bind, h1, Result.andThen_ok, Sem.run_pure]
theorem li_convSelf (i : Nat) (t e : TypeId) {x : Operand} {g size cap n c : Nat} {xs : List Value} (ho : o.op = .convert t t x) (hw : Region.wanted o (yielded ops a.tmps) = true) (hx : a.eval x = .slice (some ⟨g, 0, none⟩) n c) (HO : Own w0 W L) (hi : L[i]? = some (g, RowP e size cap xs)) (ht : P.underlying t = some (.slice e)) (he : P.underlying e = some (.int .u8))
    (h : ∀ w1, Own w0 w1 (L.set i (g, RoP e xs)) → wpList P ops Q rest (a.put o.dst (.slice (some ⟨g, 0, none⟩) n c)) w1) : wpList P ops Q (o :: rest) a W :=
  ev_list hw fun _ hK => wp_convSelf i t e ho hx HO hi ht he fun w1 h1 => hK _ _ (h w1 h1)
end
section
variable {P : Program} {ops : Array Oper} {rest : List Oper} {o : Oper} {a : Act} {Q : Exit → Act → World → Prop} {K : Act → World → Prop} {E : Prop} {w0 W : World} {L : List Ent}
theorem run_append_nilS (base : Nat) (t ty e : TypeId) (i : TypeInfo) (size : Nat) (ht : P.underlying t = some (.slice e)) (hi : P.info? e = some i)
    (v : Value) (n : Nat) (xs : List Value) (hown : W.ownsRow base e size v n xs) (c : Nat) : (Builtin.append_ #[t, t] ty #[v, .slice none 0 c]).run P W = .ok v W := by
  rcases hown.2 with ⟨rfl, rfl⟩ | ⟨g, cap, cur, rfl, _, _, hnc, _⟩
  · simp [Builtin.append_, run_underlying ht, sizeOf, typeInfo, hi, Builtin.lenOf, Builtin.firstCells]
  · simp [Builtin.append_, run_underlying ht, sizeOf, typeInfo, hi, Builtin.lenOf, Builtin.firstCells, hnc, storeCells]
/-- Behind a row of the call's own goes what a slice reads as, whatever slice it is. -/
theorem wp_append_any (i : Nat) {t e : TypeId} {s x : Operand} {z : Value} {size bytes : Nat} (hE : Elem P t e size bytes z) (ho : o.op = .call { callee := .builtin .append, args := #[s, x], argTypes := #[t, t] }) {g n cap : Nat} {xs : List Value} (hs : a.eval s = .slice (some ⟨g, 0, none⟩) n cap) (HO : Own w0 W L)
    (hi : L[i]? = some (g, RowP e size cap xs)) (hlx : xs.length = n * size)
    {ao : Option Addr} {m c : Nat} {news : List Value} (hx : a.eval x = .slice ao m c) (hl : news.length = m * size) (hnews : ∀ j u, news[j]? = some u → ∃ ad, ao = some ad ∧ W.cell? (ad.add j) = some u) (h1 : ∀ u ∈ news, u.oneCell' = true) (h63 : n + m ≤ maxLen) (hb : (n + m) * bytes ≤ 140737488355328)
    (h : ∀ g cap w1, n + m ≤ cap → Own w0 w1 ((g, RowP e size cap (xs ++ news)) :: L.eraseIdx i) → K (a.put o.dst (.slice (some ⟨g, 0, none⟩) (n + m) cap)) w1) : o.wp P a W K Q := by
  obtain ⟨inf, hif, hz, hsz, hby⟩ := hE.info
  have hown := HO.ownsRow hi hlx hE.pos
  cases ao with
  | none =>
    have hn : news = [] := by
      cases news with
      | nil => rfl
      | cons u r => obtain ⟨_, h, _⟩ := hnews 0 u rfl; cases h
    subst hn
    have hm : m = 0 := by
      have hp := hE.pos
      rcases Nat.eq_zero_or_pos m with h0 | h0
      · exact h0
      · have := Nat.mul_pos h0 hp
        simp at hl; omega
    subst hm
    have hr := run_append_nilS (P := P) w0.heap.size t o.type e inf size hE.und hif _ n xs hown c
    obtain ⟨ob, hob, cur, hcur, hp, hc, hmm⟩ := HO.at_i i hi
    have hcap : n ≤ cap := by
      have := hp.length_le
      simp only [Array.length_toList] at this
      rw [hc, hlx] at this
      exact Nat.le_of_mul_le_mul_right this hE.pos
    unfold Oper.wp execOp
    simp only [ho, resolve, invoke, builtin, Sem.run_bind, Sem.run_pure, Result.andThen_ok, List.map_toArray, List.map_cons, List.map_nil, hs, hx, hr]
    have := h g cap W hcap (by rw [List.append_nil]; exact HO.front i hi)
    exact this
  | some ad =>
    have hnews' : ∀ j u, news[j]? = some u → W.cell? (ad.add j) = some u := fun j u hj => by
      obtain ⟨ad', h1, h2⟩ := hnews j u hj
      injection h1 with h1
      subst h1; exact h2
    obtain ⟨v', w', hr, h2, h3, h4, h5⟩ := run_append_own_at (P := P) W w0.heap.size t o.type e inf z size bytes hE.und hif hz hsz hby hE.zcells hE.pos _ n xs hown ad m c news hl hnews' h1 h63 hb HO.below.size
    have hnn : v' ≠ .slice none 0 0 := fun hv => by
      have := (h4.1 hv).1
      cases this
    rcases h2.2 with ⟨hv, _⟩ | ⟨g', cap', cur, rfl, _, hg, hnc, hm, hc, ht⟩
    · exact absurd hv hnn
    have hp : RowP e size cap' (xs ++ news) (.cells cur e (0, 0)) := ⟨cur, rfl, by rw [← ht]; exact List.take_prefix _ _, hc, hm⟩
    have HO1 : Own w0 w' ((g', RowP e size cap' (xs ++ news)) :: L.eraseIdx i) := (HO.front i hi).regrown h3 (by
      rcases h5 with h5 | h5
      · left; simpa [Value.ownBlock] using h5
      · right; simpa [Value.ownBlock] using h5) hg hp
    unfold Oper.wp execOp
    simp only [ho, resolve, invoke, builtin, Sem.run_bind, Sem.run_pure, Result.andThen_ok, List.map_toArray, List.map_cons, List.map_nil, hs, hx, hr]
    exact h g' cap' w' hnc HO1
theorem li_append_any (i : Nat) {t e : TypeId} {s x : Operand} {z : Value} {size bytes : Nat} (hE : Elem P t e size bytes z) (ho : o.op = .call { callee := .builtin .append, args := #[s, x], argTypes := #[t, t] }) (hw : Region.wanted o (yielded ops a.tmps) = true) {g n cap : Nat} {xs : List Value} (hs : a.eval s = .slice (some ⟨g, 0, none⟩) n cap) (HO : Own w0 W L)
    (hi : L[i]? = some (g, RowP e size cap xs)) (hlx : xs.length = n * size)
    {ao : Option Addr} {m c : Nat} {news : List Value} (hx : a.eval x = .slice ao m c) (hl : news.length = m * size) (hnews : ∀ j u, news[j]? = some u → ∃ ad, ao = some ad ∧ W.cell? (ad.add j) = some u) (h1 : ∀ u ∈ news, u.oneCell' = true) (h63 : n + m ≤ maxLen) (hb : (n + m) * bytes ≤ 140737488355328)
    (h : ∀ g cap w1, n + m ≤ cap → Own w0 w1 ((g, RowP e size cap (xs ++ news)) :: L.eraseIdx i) → wpList P ops Q rest (a.put o.dst (.slice (some ⟨g, 0, none⟩) (n + m) cap)) w1) : wpList P ops Q (o :: rest) a W :=
  ev_list hw fun _ hK => wp_append_any i hE ho hs HO hi hlx hx hl hnews h1 h63 hb fun g cap w1 hc k => hK _ _ (h g cap w1 hc k)
theorem st_append_any (i : Nat) {t e : TypeId} {s x : Operand} {z : Value} {size bytes : Nat} (hE : Elem P t e size bytes z) (ho : o.op = .call { callee := .builtin .append, args := #[s, x], argTypes := #[t, t] }) (hw : Region.wanted o (yielded ops a.tmps) = true) {g n cap : Nat} {xs : List Value} (hs : a.eval s = .slice (some ⟨g, 0, none⟩) n cap) (HO : Own w0 W L)
    (hi : L[i]? = some (g, RowP e size cap xs)) (hlx : xs.length = n * size)
    {ao : Option Addr} {m c : Nat} {news : List Value} (hx : a.eval x = .slice ao m c) (hl : news.length = m * size) (hnews : ∀ j u, news[j]? = some u → ∃ ad, ao = some ad ∧ W.cell? (ad.add j) = some u) (h1 : ∀ u ∈ news, u.oneCell' = true) (h63 : n + m ≤ maxLen) (hb : (n + m) * bytes ≤ 140737488355328)
    (h : ∀ g cap w1, n + m ≤ cap → Own w0 w1 ((g, RowP e size cap (xs ++ news)) :: L.eraseIdx i) → K (a.put o.dst (.slice (some ⟨g, 0, none⟩) (n + m) cap)) w1) : if Region.wanted o (yielded ops a.tmps) = true then Oper.wp P o a W K Q else E :=
  ev_step hw (wp_append_any i hE ho hs HO hi hlx hx hl hnews h1 h63 hb h)
end
section
variable {P : Program} {ops : Array Oper} {rest : List Oper} {o : Oper} {a : Act} {Q : Exit → Act → World → Prop} {K : Act → World → Prop} {E : Prop} {w0 W : World} {L : List Ent}
/-- A slice of one element of one cell, laid out (a law of its own: the walk's steps are dear in a great frame). -/
theorem run_bslice1 {t e : TypeId} {bytes : Nat} {z v : Value} (hE : Elem P t e 1 bytes z) (hv : v.cells = #[v]) :
    (Instr.buildSlice t 1 #[(0, v)]).run P W = .ok (.slice (some ⟨W.heap.size, 0, none⟩) 1 1) (W.alloc (.cells #[v] e (0, 0))) := by
  obtain ⟨inf, hi, hzz, hsz, hby⟩ := hE.info
  have h1 : (sizeOf e).run P W = .ok 1 W := by simp [sizeOf, typeInfo, Sem.run_bind, hi, hsz]
  have h2 : (zeroValue e).run P W = .ok z W := by simp [zeroValue, typeInfo, Sem.run_bind, hi, hzz]
  unfold Instr.buildSlice
  simp [Sem.run_bind, run_underlying hE.und W, h1, h2, Instr.fill, hv, newRow]
  congr 2
  apply Array.ext'
  simp
theorem li_bslice1 (t e : TypeId) {bytes : Nat} {z v : Value} {x : Operand} (hE : Elem P t e 1 bytes z) (ho : o.op = .buildSlice t 1 #[(0, x)]) (hw : Region.wanted o (yielded ops a.tmps) = true) (hx : a.eval x = v) (hv : v.cells = #[v]) (HO : Own w0 W L)
    (h : ∀ g w1, Own w0 w1 ((g, RowP e 1 1 [v]) :: L) → wpList P ops Q rest (a.put o.dst (.slice (some ⟨g, 0, none⟩) 1 1)) w1) : wpList P ops Q (o :: rest) a W :=
  ev_list hw fun _ hK => wp_bslice (by
    unfold execOp
    simp only [ho, List.map_toArray, List.map_cons, List.map_nil, hx, run_bslice1 hE hv, Sem.run_bind, Result.andThen_ok, Sem.run_pure]) rfl (by decide) HO fun g w1 h1 => hK _ _ (h g w1 h1)
theorem li_bsliceInt (t e : TypeId) {bytes : Nat} {z : Value} {k : IntKind} {n : Int} {x : Operand} (hE : Elem P t e 1 bytes z) (ho : o.op = .buildSlice t 1 #[(0, x)]) (hw : Region.wanted o (yielded ops a.tmps) = true) (hx : a.eval x = .int k n) (HO : Own w0 W L)
    (h : ∀ g w1, Own w0 w1 ((g, RowP e 1 1 [.int k n]) :: L) → wpList P ops Q rest (a.put o.dst (.slice (some ⟨g, 0, none⟩) 1 1)) w1) : wpList P ops Q (o :: rest) a W :=
  li_bslice1 t e hE ho hw hx rfl HO h
end
end Go.Proofs.Ytbgjfdeolckljaa

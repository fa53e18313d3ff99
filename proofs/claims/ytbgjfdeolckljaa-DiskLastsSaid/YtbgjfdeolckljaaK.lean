/- Words of this place: what a call owns, block by block ('Own'), and laws at single operations that keep it. No program in sight. -/
import Derived.WalkKit
import Derived.WalkSpells
import Derived.WalkLawsBesides
import Derived.Deep.QuietTactic
import Derived.BigQuiet
import Derived.RegionTactic
import Derived.Deep.RegionHeld3
import Derived.Deep.DeepCutAuto
import Derived.WalkSmall
import Derived.Deep.Draws
import Derived.Laws.OwnMore
import Derived.Laws.Rows
import Derived.Lib.Hide
import Derived.LaidEqlPtr
import Derived.Deep.MidRow
import Derived.Maps.AppendAt
import Derived.Deep.AppendLies
namespace Go.Proofs.Ytbgjfdeolckljaa
set_option linter.unusedVariables false
set_option linter.unusedSimpArgs false
set_option linter.unnecessarySimpa false
open Go.RowKit
/-! ### Small things -/
theorem ret_i {k : IntKind} {a b : Int} (h : a = b) : Ending.returned (.int k a) = .returned (.int k b) := by rw [h]
theorem ret_b {a b : Bool} (h : a = b) : Ending.returned (.bool a) = .returned (.bool b) := by rw [h]
theorem ret_v {a b : Value} (h : a = b) : Ending.returned a = .returned b := by rw [h]
theorem bl_next {w a b : World} (k : Below w.heap.size w a) (h : Below a.heap.size a b) : Below w.heap.size w b := k.trans (h.mono k.size)
theorem below_dn {B : Nat} {a w : World} (h : Below B a w) (n : Nat) : Below B a (w.drewN n) := ⟨h.os, h.tape, h.output, h.size, h.block⟩
/-- A callee that leaves the world alone, met in a region that draws its order. -/
theorem quiet_eq {P : Program} {f : FuncId} {args : Array Value} {w : World} {n : Nat} {v : Value}
    (h : Calls P f args (w.drewN n) fun e w' => e = .returned v ∧ w.drewN n = w') : Calls P f args (w.drewN n) fun e w'' => e = .returned v ∧ ∃ m, w'' = w.drewN m :=
  h.mono fun _ _ ⟨he, hm⟩ => ⟨he, n, hm.symm⟩
theorem quiet_add_eq {P : Program} {f : FuncId} {args : Array Value} {w : World} {a n : Nat} {v : Value}
    (h : Calls P f args (w.drewN (a + n)) fun e w' => e = .returned v ∧ w.drewN (a + n) = w') :
    Calls P f args (w.drewN (a + n)) fun e w'' => e = .returned v ∧ ∃ m, w'' = w.drewN (a + m) :=
  h.mono fun _ _ ⟨he, hm⟩ => ⟨he, n, hm.symm⟩
/-- .. of a callee that may draw. -/
theorem quiet_dn {P : Program} {f : FuncId} {args : Array Value} {w : World} {n : Nat} {v : Value}
    (h : Calls P f args (w.drewN n) fun e w' => e = .returned v ∧ ∃ m, w' = (w.drewN n).drewN m) : Calls P f args (w.drewN n) fun e w'' => e = .returned v ∧ ∃ m, w'' = w.drewN m :=
  h.mono fun _ _ ⟨he, m, hm⟩ => ⟨he, n + m, by rw [hm, World.drewN_drewN]⟩
theorem quiet_add_dn {P : Program} {f : FuncId} {args : Array Value} {w : World} {a n : Nat} {v : Value}
    (h : Calls P f args (w.drewN (a + n)) fun e w' => e = .returned v ∧ ∃ m, w' = (w.drewN (a + n)).drewN m) :
    Calls P f args (w.drewN (a + n)) fun e w'' => e = .returned v ∧ ∃ m, w'' = w.drewN (a + m) :=
  h.mono fun _ _ ⟨he, m, hm⟩ => ⟨he, n + m, by rw [hm, World.drewN_drewN, Nat.add_assoc]⟩

/-! ### What a call owns -/
abbrev Ent := Nat × (Obj → Prop)
/-- A block of just these cells. -/
def CellsP (t : TypeId) (xs : List Value) : Obj → Prop := fun o => o = .cells xs.toArray t (0, 0)
/-- A row of so many places, of which some hold this. -/
def RowP (e : TypeId) (size cap : Nat) (xs : List Value) : Obj → Prop := fun o => ∃ cur : Array Value, o = .cells cur e (0, 0) ∧ xs <+: cur.toList ∧ cur.size = cap * size ∧ cap ≤ maxLen
/-- The list with some others put in from a place on. -/
def splice (xs : List Value) (off : Nat) (vs : List Value) : List Value := xs.take off ++ (vs ++ xs.drop (off + vs.length))

/-- Of the world w0 nothing has turned; these blocks are new since then, all of them others, and hold what is said. -/
structure Own (w0 w : World) (L : List Ent) : Prop where
  below : Below w0.heap.size w0 w
  nodup : (L.map (·.1)).Nodup
  base : ∀ x ∈ L, w0.heap.size ≤ x.1
  at_ : ∀ x ∈ L, ∃ o, w.heap[x.1]? = some o ∧ x.2 o

section
variable {w0 w w' : World} {L : List Ent} {g i : Nat} {p p' : Obj → Prop} {t : TypeId} {xs vs : List Value}
theorem Own.nil (w : World) : Own w w [] := ⟨Below.refl _ _, List.nodup_nil, by simp, by simp⟩
theorem Own.lt (h : Own w0 w L) {x : Ent} (hx : x ∈ L) : x.1 < w.heap.size := by
  obtain ⟨o, ho, _⟩ := h.at_ x hx
  exact (Array.getElem?_eq_some_iff.1 ho).1
theorem Own.mem (hi : L[i]? = some (g, p)) : (g, p) ∈ L := List.mem_of_getElem? hi
theorem Own.move (h : Own w0 w L) (hb : Below w0.heap.size w0 w') (hs : ∀ k, k < w.heap.size → w'.heap[k]? = w.heap[k]?) : Own w0 w' L :=
  ⟨hb, h.nodup, h.base, fun x hx => by rw [hs x.1 (h.lt hx)]; exact h.at_ x hx⟩
theorem Own.drew (h : Own w0 w L) : Own w0 w.drew L := ⟨h.below.drew, h.nodup, h.base, h.at_⟩
theorem Own.drewN (h : Own w0 w L) (n : Nat) : Own w0 (w.drewN n) L := ⟨below_dn h.below n, h.nodup, h.base, h.at_⟩
theorem Own.next (h : Own w0 w L) (hb : Below w.heap.size w w') : Own w0 w' L := h.move (bl_next h.below hb) (fun k hk => hb.block k hk)
theorem Own.more {M : List Ent} (h : Own w0 w L) (k : Own w w' M) : Own w0 w' (M ++ L) := by
  refine ⟨bl_next h.below k.below, ?_, ?_, ?_⟩
  · rw [List.map_append, List.nodup_append]
    refine ⟨k.nodup, h.nodup, ?_⟩
    intro a ha b hb e
    obtain ⟨x, hx, rfl⟩ := List.mem_map.1 ha
    obtain ⟨y, hy, rfl⟩ := List.mem_map.1 hb
    have h1 := k.base x hx
    have h2 := h.lt hy
    omega
  · intro x hx
    rcases List.mem_append.1 hx with hx | hx
    · exact Nat.le_trans h.below.size (k.base x hx)
    · exact h.base x hx
  · intro x hx
    rcases List.mem_append.1 hx with hx | hx
    · exact k.at_ x hx
    · rw [k.below.block x.1 (h.lt hx)]; exact h.at_ x hx
theorem Own.alloc (h : Own w0 w L) (o : Obj) (hp : p o) : Own w0 (w.alloc o) ((w.heap.size, p) :: L) := by
  refine ⟨h.below.alloc h.below.size o, ?_, ?_, ?_⟩
  · rw [List.map_cons, List.nodup_cons]
    refine ⟨fun hm => ?_, h.nodup⟩
    obtain ⟨x, hx, e⟩ := List.mem_map.1 hm
    have := h.lt hx
    simp at e
    omega
  · intro x hx
    rcases List.mem_cons.1 hx with rfl | hx
    · exact h.below.size
    · exact h.base x hx
  · intro x hx
    rcases List.mem_cons.1 hx with rfl | hx
    · exact ⟨o, heap_alloc_new w o, hp⟩
    · rw [Below.heap_alloc w o x.1 (h.lt hx)]; exact h.at_ x hx
theorem Own.sub {M : List Ent} (h : Own w0 w L) (hs : M.Sublist L) : Own w0 w M :=
  ⟨h.below, h.nodup.sublist (hs.map _), fun x hx => h.base x (hs.subset hx), fun x hx => h.at_ x (hs.subset hx)⟩
theorem Own.perm {M : List Ent} (h : Own w0 w L) (hs : L.Perm M) : Own w0 w M :=
  ⟨h.below, (hs.map (·.1)).nodup_iff.1 h.nodup, fun x hx => h.base x (hs.mem_iff.2 hx), fun x hx => h.at_ x (hs.mem_iff.2 hx)⟩
theorem perm_front : ∀ (L : List Ent) (i : Nat) (x : Ent), L[i]? = some x → L.Perm (x :: L.eraseIdx i)
  | y :: L, 0, x, h => by simp at h; subst h; exact List.Perm.refl _
  | y :: L, i + 1, x, h => ((perm_front L i x (by simpa using h)).cons y).trans (List.Perm.swap x y _)
/-- One of them ahead of all. -/
theorem Own.front (h : Own w0 w L) (i : Nat) {x : Ent} (hi : L[i]? = some x) : Own w0 w (x :: L.eraseIdx i) := h.perm (perm_front L i x hi)
theorem Own.tail {x : Ent} (h : Own w0 w (x :: L)) : Own w0 w L := h.sub (List.sublist_cons_self x L)
theorem Own.at_i (h : Own w0 w L) (i : Nat) (hi : L[i]? = some (g, p)) : ∃ o, w.heap[g]? = some o ∧ p o := h.at_ (g, p) (List.mem_of_getElem? hi)
theorem Own.lt_i (h : Own w0 w L) (i : Nat) (hi : L[i]? = some (g, p)) : g < w.heap.size := h.lt (x := (g, p)) (List.mem_of_getElem? hi)
theorem Own.ge_i (h : Own w0 w L) (i : Nat) (hi : L[i]? = some (g, p)) : w0.heap.size ≤ g := h.base (g, p) (List.mem_of_getElem? hi)
theorem Own.ne_ (h : Own w0 w L) {i j g' : Nat} {q : Obj → Prop} (hij : i ≠ j) (hi : L[i]? = some (g, p)) (hj : L[j]? = some (g', q)) : g ≠ g' := by
  rintro rfl
  have h1 : (L.map (·.1))[i]? = some g := by simp [hi]
  have h2 : (L.map (·.1))[j]? = some g := by simp [hj]
  obtain ⟨l1, e1⟩ := List.getElem?_eq_some_iff.1 h1
  obtain ⟨l2, e2⟩ := List.getElem?_eq_some_iff.1 h2
  exact hij ((List.getElem_inj h.nodup).1 (e1.trans e2.symm))
/-- One of them has turned, nothing else has. -/
theorem Own.put (h : Own w0 w L) (i : Nat) (hi : L[i]? = some (g, p)) {w1 : World} (hos : w1.os = w.os) (htp : w1.tape = w.tape) (hout : w1.output = w.output) (hsz : w.heap.size ≤ w1.heap.size)
    (hs : ∀ k, k < w.heap.size → k ≠ g → w1.heap[k]? = w.heap[k]?) {o : Obj} (ho : w1.heap[g]? = some o) (hp : p' o) : Own w0 w1 (L.set i (g, p')) := by
  have hge := h.ge_i i hi
  have hil : i < L.length := (List.getElem?_eq_some_iff.1 hi).1
  have hgi : L[i] = (g, p) := (List.getElem?_eq_some_iff.1 hi).2
  have hmap : (L.set i (g, p')).map (·.1) = L.map (·.1) := by
    rw [List.map_set]
    have : (L.map (·.1))[i]'(by simpa using hil) = g := by simp [hgi]
    conv => lhs; arg 3; rw [show ((g, p') : Ent).1 = g from rfl, ← this]
    exact List.set_getElem_self _
  have hne : ∀ j x, j ≠ i → L[j]? = some x → x.1 ≠ g := fun j x hj hx e => by
    obtain ⟨x1, x2⟩ := x
    exact h.ne_ (i := j) (j := i) hj hx hi e
  refine ⟨⟨hos.trans h.below.os, htp.trans h.below.tape, hout.trans h.below.output, Nat.le_trans h.below.size hsz, fun k hk => (hs k (Nat.lt_of_lt_of_le hk h.below.size) (by omega)).trans (h.below.block k hk)⟩, by rw [hmap]; exact h.nodup, ?_, ?_⟩
  · intro x hx
    obtain ⟨j, hj⟩ := List.getElem?_of_mem hx
    rw [List.getElem?_set] at hj
    by_cases e : i = j
    · rw [if_pos e, if_pos (by omega)] at hj
      injection hj with hj
      rw [← hj]; exact hge
    · rw [if_neg e] at hj
      exact h.base x (List.mem_of_getElem? hj)
  · intro x hx
    obtain ⟨j, hj⟩ := List.getElem?_of_mem hx
    rw [List.getElem?_set] at hj
    by_cases e : i = j
    · rw [if_pos e, if_pos (by omega)] at hj
      injection hj with hj
      rw [← hj]; exact ⟨o, ho, hp⟩
    · rw [if_neg e] at hj
      have hm := List.mem_of_getElem? hj
      rw [hs x.1 (h.lt hm) (hne j x (by omega) hj)]
      exact h.at_ x hm
/-- A callee has turned this one alone. -/
theorem Own.grown (h : Own w0 w L) (i : Nat) (hi : L[i]? = some (g, p)) (hg : w.grownBy w' (some g)) {o : Obj} (ho : w'.heap[g]? = some o) (hp : p' o) : Own w0 w' (L.set i (g, p')) :=
  h.put i hi hg.os hg.tape hg.output hg.size (fun k hk hne => hg.block k hk (fun e => hne (by injection e))) ho hp
theorem setCells_sz (b : Nat) : ∀ (vs : List Value) (o : Nat) (w : World), (w.setCells b o vs).heap.size = w.heap.size ∧ (w.setCells b o vs).os = w.os ∧ (w.setCells b o vs).tape = w.tape ∧ (w.setCells b o vs).output = w.output ∧ ∀ k, k ≠ b → (w.setCells b o vs).heap[k]? = w.heap[k]?
  | [], _, _ => ⟨rfl, rfl, rfl, rfl, fun _ _ => rfl⟩
  | v :: r, o, w => by
    obtain ⟨h1, h2, h3, h4, h5⟩ := setCells_sz b r (o + 1) (w.setCell ⟨b, o, none⟩ v)
    refine ⟨by rw [World.setCells, h1]; simp [World.setCell], by rw [World.setCells, h2]; rfl, by rw [World.setCells, h3]; rfl, by rw [World.setCells, h4]; rfl, fun k hk => ?_⟩
    rw [World.setCells, h5 k hk]
    exact Below.heap_setCell w ⟨b, o, none⟩ v k (by simpa using hk)
theorem setCells_blk (b : Nat) (t : TypeId) : ∀ (vs : List Value) (o : Nat) (w : World) (cur : Array Value), w.heap[b]? = some (.cells cur t (0, 0)) → o + vs.length ≤ cur.size →
    ∃ cur' : Array Value, (w.setCells b o vs).heap[b]? = some (.cells cur' t (0, 0)) ∧ cur'.size = cur.size ∧ cur'.toList = cur.toList.take o ++ (vs ++ cur.toList.drop (o + vs.length))
  | [], o, w, cur, h, hl => ⟨cur, h, rfl, by simp⟩
  | v :: r, o, w, cur, h, hl => by
    have h1 : (w.setCell ⟨b, o, none⟩ v).heap[b]? = some (.cells (cur.setIfInBounds o v) t (0, 0)) := by simp [World.setCell, Array.getElem?_modify, h]
    simp only [List.length_cons] at hl
    obtain ⟨cur', h2, h3, h4⟩ := setCells_blk b t r (o + 1) _ _ h1 (by simp; omega)
    refine ⟨cur', h2, by simpa using h3, ?_⟩
    rw [h4, Array.toList_setIfInBounds]
    have e1 : (cur.toList.set o v).take (o + 1) = cur.toList.take o ++ [v] := by
      rw [List.take_succ_eq_append_getElem (by simp; omega), List.getElem_set_self, List.take_set_of_le (Nat.le_refl _)]
    have e2 : (cur.toList.set o v).drop (o + 1 + r.length) = cur.toList.drop (o + (v :: r).length) := by
      rw [List.drop_set_of_lt (by omega)]
      congr 1
      simp; omega
    rw [e1, e2]
    simp
theorem prefix_splice {xs cur : List Value} (h : xs <+: cur) (off : Nat) (vs : List Value) (hf : off + vs.length ≤ xs.length) : splice xs off vs <+: cur.take off ++ (vs ++ cur.drop (off + vs.length)) := by
  obtain ⟨ys, rfl⟩ := h
  refine ⟨ys, ?_⟩
  unfold splice
  rw [List.take_append_of_le_length (by omega), List.drop_append_of_le_length (by omega)]
  simp [List.append_assoc]
theorem splice_length (xs : List Value) (off : Nat) (vs : List Value) (hf : off + vs.length ≤ xs.length) : (splice xs off vs).length = xs.length := by
  unfold splice; simp; omega
theorem Own.setCells (h : Own w0 w L) (i : Nat) (hi : L[i]? = some (g, CellsP t xs)) (off : Nat) (vs : List Value) (hf : off + vs.length ≤ xs.length) : Own w0 (w.setCells g off vs) (L.set i (g, CellsP t (splice xs off vs))) := by
  obtain ⟨o, ho, rfl⟩ := h.at_i i hi
  obtain ⟨h1, h2, h3, h4, h5⟩ := setCells_sz g vs off w
  obtain ⟨cur', k1, _, k3⟩ := setCells_blk g t vs off w xs.toArray ho (by simpa using hf)
  refine h.put i hi h2 h3 h4 (by omega) (fun k _ hk => h5 k hk) k1 ?_
  have e : cur' = (splice xs off vs).toArray := by
    apply Array.toList_inj.1
    rw [k3]; simp [splice]
  rw [e]; rfl
theorem Own.setRow {e : TypeId} {size cap : Nat} (h : Own w0 w L) (i : Nat) (hi : L[i]? = some (g, RowP e size cap xs)) (off : Nat) (vs : List Value) (hf : off + vs.length ≤ xs.length) : Own w0 (w.setCells g off vs) (L.set i (g, RowP e size cap (splice xs off vs))) := by
  obtain ⟨o, ho, cur, rfl, hp, hc, hm⟩ := h.at_i i hi
  obtain ⟨h1, h2, h3, h4, h5⟩ := setCells_sz g vs off w
  have hl : xs.length ≤ cur.size := by have := hp.length_le; simpa using this
  obtain ⟨cur', k1, k2, k3⟩ := setCells_blk g e vs off w cur ho (by omega)
  exact h.put i hi h2 h3 h4 (by omega) (fun k _ hk => h5 k hk) k1 ⟨cur', rfl, by rw [k3]; exact prefix_splice hp off vs hf, by rw [k2, hc], hm⟩
theorem Own.heap_ (h : Own w0 w L) (i : Nat) (hi : L[i]? = some (g, CellsP t xs)) : w.heap[g]? = some (.cells xs.toArray t (0, 0)) := by
  obtain ⟨o, ho, rfl⟩ := h.at_i i hi
  exact ho
theorem Own.cell (h : Own w0 w L) (i : Nat) (hi : L[i]? = some (g, CellsP t xs)) (j : Nat) {v : Value} (hj : xs[j]? = some v) : w.cell? ⟨g, j, none⟩ = some v := by
  rw [cell_of_row w g j _ t (0, 0) (h.heap_ i hi)]
  simpa using hj
theorem Own.cells (h : Own w0 w L) (i : Nat) (hi : L[i]? = some (g, CellsP t xs)) : ∀ j, j < xs.length → w.cell? ⟨g, j, none⟩ = xs[j]? := fun j hj => by
  rw [List.getElem?_eq_getElem hj]
  exact h.cell i hi j (List.getElem?_eq_getElem hj)
theorem Own.frozen (h : Own w0 w L) (i : Nat) (hi : L[i]? = some (g, CellsP t xs)) (j : Nat) : w.frozen? ⟨g, j, none⟩ = false := by
  simp [World.frozen?, h.heap_ i hi]
theorem Own.rowCell {e : TypeId} {size cap : Nat} (h : Own w0 w L) (i : Nat) (hi : L[i]? = some (g, RowP e size cap xs)) (j : Nat) {v : Value} (hj : xs[j]? = some v) : w.cell? ⟨g, j, none⟩ = some v := by
  obtain ⟨o, ho, cur, rfl, hp, _⟩ := h.at_i i hi
  rw [cell_of_row w g j cur e (0, 0) ho]
  obtain ⟨ys, e⟩ := hp
  have : cur.toList[j]? = some v := by rw [← e, List.getElem?_append_left (List.getElem?_eq_some_iff.1 hj).1, hj]
  simpa using this
theorem Own.there (h : Own w0 w L) (i : Nat) (hi : L[i]? = some (g, CellsP t xs)) (off n : Nat) (hf : off + n ≤ xs.length) : w.there g off n := fun j hj => by
  refine ⟨?_, h.frozen i hi _⟩
  have hl : off + j < xs.length := by omega
  rw [h.cell i hi (off + j) (List.getElem?_eq_getElem hl)]; rfl
theorem Own.thereRow {e : TypeId} {size cap : Nat} (h : Own w0 w L) (i : Nat) (hi : L[i]? = some (g, RowP e size cap xs)) (off n : Nat) (hf : off + n ≤ xs.length) : w.there g off n := fun j hj => by
  have hl : off + j < xs.length := by omega
  refine ⟨by rw [h.rowCell i hi (off + j) (List.getElem?_eq_getElem hl)]; rfl, ?_⟩
  obtain ⟨o, ho, cur, rfl, hp⟩ := h.at_i i hi
  simp [World.frozen?, ho]
theorem Own.range (h : Own w0 w L) (i : Nat) (hi : L[i]? = some (g, CellsP t xs)) (off : Nat) (vs : List Value) (hv : vs = (xs.drop off).take vs.length) : w.rangeAt g off vs := fun j v hj => by
  refine h.cell i hi (off + j) ?_
  have hjl := (List.getElem?_eq_some_iff.1 hj).1
  rw [hv, List.getElem?_take_of_lt hjl, List.getElem?_drop] at hj
  exact hj
theorem Own.rangeRow {e : TypeId} {size cap : Nat} (h : Own w0 w L) (i : Nat) (hi : L[i]? = some (g, RowP e size cap xs)) (off : Nat) (vs : List Value) (hv : vs = (xs.drop off).take vs.length) : w.rangeAt g off vs := fun j v hj => by
  refine h.rowCell i hi (off + j) ?_
  have hjl := (List.getElem?_eq_some_iff.1 hj).1
  rw [hv, List.getElem?_take_of_lt hjl, List.getElem?_drop] at hj
  exact hj
/-- A callee has made this block, and turned nothing. -/
theorem Own.fresh (h : Own w0 w L) {cs : List Value} (hb : Below w.heap.size w w') (hg : w.heap.size ≤ g) (hx : w'.heap[g]? = some (.cells cs.toArray t (0, 0))) : Own w0 w' ((g, CellsP t cs) :: L) := by
  have k : Own w w' [(g, CellsP t cs)] := ⟨hb, by simp, fun x hx' => by
    rw [List.mem_singleton.1 hx']; exact hg, fun x hx' => by
    rw [List.mem_singleton.1 hx']; exact ⟨_, hx, rfl⟩⟩
  exact h.more k
/-- A callee has turned this block alone, and perhaps made others. -/
theorem Own.turned (h : Own w0 w L) (i : Nat) (hi : L[i]? = some (g, CellsP t xs)) {ys : List Value} (hg : w.grownBy w' (some g)) (hx : w'.heap[g]? = some (.cells ys.toArray t (0, 0))) : Own w0 w' (L.set i (g, CellsP t ys)) :=
  h.grown i hi hg hx rfl
/-- A cell of the elder world reads as it did. -/
theorem Own.old (h : Own w0 w L) {a : Addr} {v : Value} (hc : w0.cell? a = some v) : w.cell? a = some v := by
  rw [h.below.cell (World.block_lt_of_cell? w0 _ hc)]; exact hc
end
end Go.Proofs.Ytbgjfdeolckljaa

/- Blocks of cells as a table that is read and written by block and place; maps from whole numbers. Over 'Own'. -/
import Derived.Test.YtkkgajlddlnghaaF
import Derived.Maps.OwnSet
namespace Go.Proofs.Ytkkgajlddlnghaa
set_option linter.unusedVariables false
set_option linter.unusedSimpArgs false
set_option linter.unnecessarySimpa false
open Go.RowKit
structure Blk where
  id : Nat
  ty : TypeId
  cs : List Value
abbrev Tab := List Blk
def Tab.ents (T : Tab) : List Ent := T.map fun x => (x.id, CellsP x.ty x.cs)
def Tab.get : Tab → Nat → Nat → Option Value
  | [], _, _ => none
  | x :: T, b, o => if x.id = b then x.cs[o]? else Tab.get T b o
def Tab.put (T : Tab) (b o : Nat) (v : Value) : Tab := T.map fun x => if x.id = b then { x with cs := x.cs.set o v } else x
namespace Tab
theorem put_ids (T : Tab) (b o : Nat) (v : Value) : (T.put b o v).map (·.id) = T.map (·.id) := by
  unfold Tab.put
  rw [List.map_map]
  apply List.map_congr_left
  intro x _
  simp only [Function.comp]
  split <;> rfl
theorem get_put (b o : Nat) (v : Value) (b' o' : Nat) : ∀ T : Tab, (T.put b o v).get b' o' = if b = b' ∧ o = o' then (T.get b o).map fun _ => v else T.get b' o'
  | [] => by simp [Tab.put, Tab.get]
  | x :: T => by
    have ih := get_put b o v b' o' T
    unfold Tab.put at ih ⊢
    simp only [List.map_cons, Tab.get]
    by_cases hb : b = b'
    · subst hb
      by_cases hx : x.id = b
      · simp only [hx, if_true]
        by_cases ho : o = o'
        · subst ho
          simp only [and_self, if_true]
          rw [List.getElem?_set_self']; rfl
        · simp only [ho, and_false, if_false]
          rw [List.getElem?_set_ne ho]
      · simp only [hx, if_false]
        simpa using ih
    · simp only [hb, false_and, if_false] at ih ⊢
      by_cases hx : x.id = b
      · simp only [hx, if_true, hb, if_false]; exact ih
      · simp only [hx, if_false]; rw [ih]
theorem get_put_same {T : Tab} {b o : Nat} {u v : Value} (h : T.get b o = some u) : (T.put b o v).get b o = some v := by rw [get_put, if_pos ⟨rfl, rfl⟩, h]; rfl
theorem get_put_ne {T : Tab} {b o b' o' : Nat} {v : Value} (h : b ≠ b' ∨ o ≠ o') : (T.put b o v).get b' o' = T.get b' o' := by
  rw [get_put, if_neg]
  rintro ⟨h1, h2⟩
  rcases h with h | h
  · exact h h1
  · exact h h2
theorem get_cons (x : Blk) (T : Tab) (b o : Nat) : Tab.get (x :: T) b o = if x.id = b then x.cs[o]? else T.get b o := rfl
theorem get_id {b o : Nat} {v : Value} : ∀ {T : Tab}, T.get b o = some v → b ∈ T.map (·.id)
  | [], h => by cases h
  | x :: T, h => by
    unfold Tab.get at h
    by_cases hx : x.id = b
    · simp [hx]
    · rw [if_neg hx] at h
      exact List.mem_cons_of_mem _ (get_id h)
theorem get_some {b o : Nat} {v : Value} : ∀ {T : Tab}, T.get b o = some v → ∃ (i : Nat) (x : Blk), T[i]? = some x ∧ x.id = b ∧ x.cs[o]? = some v
  | [], h => by cases h
  | x :: T, h => by
    unfold Tab.get at h
    by_cases hx : x.id = b
    · rw [if_pos hx] at h
      exact ⟨0, x, rfl, hx, h⟩
    · rw [if_neg hx] at h
      obtain ⟨i, y, h1, h2, h3⟩ := get_some h
      exact ⟨i + 1, y, by simpa using h1, h2, h3⟩
theorem put_none {b o : Nat} {v : Value} : ∀ {T : Tab}, b ∉ T.map (·.id) → T.put b o v = T
  | [], _ => rfl
  | x :: T, h => by
    simp only [List.map_cons, List.mem_cons, not_or] at h
    unfold Tab.put
    rw [List.map_cons, if_neg (fun e => h.1 e.symm)]
    congr 1
    exact put_none h.2
theorem put_set {b o : Nat} {v : Value} : ∀ {T : Tab} {i : Nat} {x : Blk}, (T.map (·.id)).Nodup → T[i]? = some x → x.id = b → T.put b o v = T.set i { x with cs := x.cs.set o v }
  | [], i, x, _, h, _ => by simp at h
  | y :: T, 0, x, hn, h, hx => by
    simp at h
    subst h
    rw [List.map_cons, List.nodup_cons] at hn
    have := put_none (T := T) (b := b) (o := o) (v := v) (by rw [← hx]; exact hn.1)
    unfold Tab.put at this ⊢
    rw [List.map_cons, if_pos hx, this]; rfl
  | y :: T, i + 1, x, hn, h, hx => by
    rw [List.map_cons, List.nodup_cons] at hn
    have hxT : T[i]? = some x := by simpa using h
    have ih := put_set (T := T) (i := i) (o := o) (v := v) hn.2 hxT hx
    have hne : y.id ≠ b := fun e => hn.1 (List.mem_map.2 ⟨x, List.mem_of_getElem? hxT, by rw [hx, e]⟩)
    unfold Tab.put at ih ⊢
    rw [List.map_cons, if_neg hne, ih]; rfl
end Tab
theorem ents_ids (T : Tab) : T.ents.map (·.1) = T.map (·.id) := by unfold Tab.ents; rw [List.map_map]; rfl
section
variable {w0 w : World} {L : List Ent} {T : Tab} {b o : Nat} {u v : Value}
theorem Own.tabNodup (h : Own w0 w (T.ents ++ L)) : (T.map (·.id)).Nodup := by
  have := h.nodup
  rw [List.map_append, List.nodup_append, ents_ids] at this
  exact this.1
theorem Own.tabAt (h : T.get b o = some v) (L : List Ent) : ∃ (i : Nat) (x : Blk), T[i]? = some x ∧ x.id = b ∧ x.cs[o]? = some v ∧ (T.ents ++ L)[i]? = some (b, CellsP x.ty x.cs) := by
  obtain ⟨i, x, h1, h2, h3⟩ := Tab.get_some h
  refine ⟨i, x, h1, h2, h3, ?_⟩
  have hi := (List.getElem?_eq_some_iff.1 h1).1
  rw [List.getElem?_append_left (by simpa [Tab.ents] using hi)]
  simp [Tab.ents, h1, h2]
theorem Own.tabCell (h : Own w0 w (T.ents ++ L)) (hg : T.get b o = some v) : w.cell? ⟨b, o, none⟩ = some v := by
  obtain ⟨i, x, _, _, h3, h4⟩ := Own.tabAt hg L
  exact h.cell i h4 o h3
theorem Own.tabThere (h : Own w0 w (T.ents ++ L)) (hg : T.get b o = some u) : w.there b o 1 := by
  obtain ⟨i, x, _, _, h3, h4⟩ := Own.tabAt hg L
  exact h.there i h4 o 1 (by have := (List.getElem?_eq_some_iff.1 h3).1; omega)
theorem Own.tabPut (h : Own w0 w (T.ents ++ L)) (hg : T.get b o = some u) : Own w0 (w.setCells b o [v]) ((T.put b o v).ents ++ L) := by
  obtain ⟨i, x, h1, h2, h3, h4⟩ := Own.tabAt hg L
  have hl := (List.getElem?_eq_some_iff.1 h3).1
  have h5 := h.setCells i h4 o [v] (by simp; omega)
  have hi := (List.getElem?_eq_some_iff.1 h1).1
  rw [List.set_append_left _ _ (by simpa [Tab.ents] using hi)] at h5
  rw [Tab.put_set h.tabNodup h1 h2]
  have e : Tab.ents (List.set T i { x with cs := x.cs.set o v }) = T.ents.set i (b, CellsP x.ty (splice x.cs o [v])) := by
    unfold Tab.ents
    rw [List.map_set]
    congr 1
    simp only [h2]
    rw [show splice x.cs o [v] = x.cs.set o v from by unfold splice; rw [List.set_eq_take_append_cons_drop, if_pos hl]; rfl]
  rw [e]; exact h5
theorem Own.tabCons {t : TypeId} {cs : List Value} (h : Own w0 w ((b, CellsP t cs) :: (T.ents ++ L))) : Own w0 w (Tab.ents (⟨b, t, cs⟩ :: T) ++ L) := h
/-- A block at the head is none of the table's. -/
theorem Own.tabFresh {p : Obj → Prop} (h : Own w0 w ((b, p) :: (T.ents ++ L))) : b ∉ T.map (·.id) := fun hm => by
  have := h.nodup
  rw [List.map_cons, List.map_append, ents_ids, List.nodup_cons] at this
  exact this.1 (List.mem_append_left _ hm)
end
section
variable {P : Program} {ops : Array Oper} {rest : List Oper} {o : Oper} {a : Act} {Q : Exit → Act → World → Prop} {K : Act → World → Prop} {E : Prop} {w0 W : World} {L : List Ent} {T : Tab}
theorem wp_loadT (t : TypeId) {x : Operand} (ho : o.op = .load t x) {b off : Nat} (hx : a.eval x = .pointer (some ⟨b, off, none⟩)) (HO : Own w0 W (T.ents ++ L)) {v : Value} (hv : T.get b off = some v) (hd : rowB P t = false) (h : K (a.put o.dst v) W) : o.wp P a W K Q := by
  refine wp_run ?_ h
  unfold execOp
  simp only [ho, hx, Instr.loadAt, Instr.sureAddr, Sem.run_bind, Sem.run_pure, Result.andThen_ok, run_loadVar_one hd (HO.tabCell hv)]
theorem wp_storeT {t : TypeId} {x y : Operand} (ho : o.op = .store t x y) (hN : o.dst = none) {b off : Nat} (hx : a.eval x = .pointer (some ⟨b, off, none⟩)) (HO : Own w0 W (T.ents ++ L)) {u v : Value} (hu : T.get b off = some u) (hy : a.eval y = v) (h1 : v.oneCell' = true) (hc1 : v.cells.toList = [v]) (hs : (P.info? t).map (·.size) = some 1)
    (h : ∀ w1, Own w0 w1 ((T.put b off v).ents ++ L) → K a w1) : o.wp P a W K Q := by
  refine wp_skip hN (w1 := W.setCells b off [v]) ?_ (h _ (HO.tabPut hu))
  unfold execOp
  simp only [ho, hx, hy, Instr.storeAt, Instr.sureAddr, Sem.run_bind, Sem.run_pure, Result.andThen_ok, run_storeVar_any (vs := [v]) hc1 (HO.tabThere hu) hs (by simp [h1])]
theorem li_loadT (t : TypeId) {x : Operand} (ho : o.op = .load t x) (hw : Region.wanted o (yielded ops a.tmps) = true) {b off : Nat} (hx : a.eval x = .pointer (some ⟨b, off, none⟩)) (HO : Own w0 W (T.ents ++ L)) {v : Value} (hv : T.get b off = some v) (hd : rowB P t = false) (h : wpList P ops Q rest (a.put o.dst v) W) : wpList P ops Q (o :: rest) a W :=
  ev_list hw fun _ hK => wp_loadT t ho hx HO hv hd (hK _ _ h)
theorem li_storePtrT (t : TypeId) {x y : Operand} (ho : o.op = .store t x y) (hw : Region.wanted o (yielded ops a.tmps) = true) (hN : o.dst = none) {b off : Nat} (hx : a.eval x = .pointer (some ⟨b, off, none⟩)) (HO : Own w0 W (T.ents ++ L)) {q : Option Addr} (hy : a.eval y = .pointer q) {u : Value} (hu : T.get b off = some u) (hs : (P.info? t).map (·.size) = some 1)
    (h : ∀ w1, Own w0 w1 ((T.put b off (.pointer q)).ents ++ L) → wpList P ops Q rest a w1) : wpList P ops Q (o :: rest) a W :=
  ev_list hw fun _ hK => wp_storeT ho hN hx HO hu hy rfl rfl hs fun w1 h1 => hK _ _ (h w1 h1)
theorem li_storeIntT (t : TypeId) {x y : Operand} (ho : o.op = .store t x y) (hw : Region.wanted o (yielded ops a.tmps) = true) (hN : o.dst = none) {b off : Nat} (hx : a.eval x = .pointer (some ⟨b, off, none⟩)) (HO : Own w0 W (T.ents ++ L)) {k : IntKind} {n : Int} (hy : a.eval y = .int k n) {u : Value} (hu : T.get b off = some u) (hs : (P.info? t).map (·.size) = some 1)
    (h : ∀ w1, Own w0 w1 ((T.put b off (.int k n)).ents ++ L) → wpList P ops Q rest a w1) : wpList P ops Q (o :: rest) a W :=
  ev_list hw fun _ hK => wp_storeT ho hN hx HO hu hy rfl rfl hs fun w1 h1 => hK _ _ (h w1 h1)
theorem li_storeBoolT (t : TypeId) {x y : Operand} (ho : o.op = .store t x y) (hw : Region.wanted o (yielded ops a.tmps) = true) (hN : o.dst = none) {b off : Nat} (hx : a.eval x = .pointer (some ⟨b, off, none⟩)) (HO : Own w0 W (T.ents ++ L)) {n : Bool} (hy : a.eval y = .bool n) {u : Value} (hu : T.get b off = some u) (hs : (P.info? t).map (·.size) = some 1)
    (h : ∀ w1, Own w0 w1 ((T.put b off (.bool n)).ents ++ L) → wpList P ops Q rest a w1) : wpList P ops Q (o :: rest) a W :=
  ev_list hw fun _ hK => wp_storeT ho hN hx HO hu hy rfl rfl hs fun w1 h1 => hK _ _ (h w1 h1)
theorem st_storePtrT (t : TypeId) {x y : Operand} (ho : o.op = .store t x y) (hw : Region.wanted o (yielded ops a.tmps) = true) (hN : o.dst = none) {b off : Nat} (hx : a.eval x = .pointer (some ⟨b, off, none⟩)) (HO : Own w0 W (T.ents ++ L)) {q : Option Addr} (hy : a.eval y = .pointer q) {u : Value} (hu : T.get b off = some u) (hs : (P.info? t).map (·.size) = some 1)
    (h : ∀ w1, Own w0 w1 ((T.put b off (.pointer q)).ents ++ L) → K a w1) : if Region.wanted o (yielded ops a.tmps) = true then Oper.wp P o a W K Q else E :=
  ev_step hw (wp_storeT ho hN hx HO hu hy rfl rfl hs h)
theorem st_storeIntT (t : TypeId) {x y : Operand} (ho : o.op = .store t x y) (hw : Region.wanted o (yielded ops a.tmps) = true) (hN : o.dst = none) {b off : Nat} (hx : a.eval x = .pointer (some ⟨b, off, none⟩)) (HO : Own w0 W (T.ents ++ L)) {k : IntKind} {n : Int} (hy : a.eval y = .int k n) {u : Value} (hu : T.get b off = some u) (hs : (P.info? t).map (·.size) = some 1)
    (h : ∀ w1, Own w0 w1 ((T.put b off (.int k n)).ents ++ L) → K a w1) : if Region.wanted o (yielded ops a.tmps) = true then Oper.wp P o a W K Q else E :=
  ev_step hw (wp_storeT ho hN hx HO hu hy rfl rfl hs h)
end
/-! ### Maps from whole numbers -/
open Go.Maps (Keyed IsMap)
/-- How an element reads: as one literal. -/
def rdE (enc : Value → Option Lit) (v : Value) : Option (DataW Unit × List MemPlace) := (enc v).map fun l => (.lit l, [])
def encPtr : Value → Option Lit
  | .pointer none => some (.int .i64 0)
  | .pointer (some a) => if a.spot = none ∧ a.off = 0 then some (.int .i64 ((a.block : Int) + 1)) else none
  | _ => none
def encBool : Value → Option Lit
  | .bool b => some (.bool b)
  | _ => none
/-- A block that is a map of at most so many entries, which tells this of each key. -/
def MapP (P : Program) (k : TypeId) (enc : Value → Option Lit) (z : Lit) (n : Nat) (F : Int → Value) : Obj → Prop := fun o =>
  ∃ es clock, o = .map es clock ∧ WideElems.Fit P k (rdE enc) es clock ∧ es.size ≤ n ∧ ∀ key : Int, (Lit.int .i64 key).wf = true → ∃ l, enc (F key) = some l ∧ (DataW.map ((es.toList.map (WideElems.rg P k (rdE enc))).foldr DataW.insert [])).atKey (.int .i64 key) (.lit z) = .lit l

theorem encPtr_inj {v v' : Value} {l : Lit} (h : encPtr v = some l) (h' : encPtr v' = some l) : v = v' := by
  unfold encPtr at h h'
  split at h <;> split at h'
  · rfl
  · injection h with h
    split at h'
    · injection h' with h'
      rw [← h] at h'
      injection h' with _ h'
      omega
    · cases h'
  · cases h'
  · injection h' with h'
    split at h
    · injection h with h
      rw [← h'] at h
      injection h with _ h
      omega
    · cases h
  · rename_i a _ a'
    split at h
    · split at h'
      · rename_i c c'
        injection h with h
        injection h' with h'
        rw [← h] at h'
        injection h' with _ h'
        obtain ⟨b, o, s⟩ := a
        obtain ⟨b', o', s'⟩ := a'
        simp at c c' h'
        obtain ⟨rfl, rfl⟩ := c
        obtain ⟨rfl, rfl⟩ := c'
        have : b = b' := by omega
        rw [this]
      · cases h'
    · cases h
  · cases h'
  all_goals cases h
theorem encBool_inj {v v' : Value} {l : Lit} (h : encBool v = some l) (h' : encBool v' = some l) : v = v' := by
  unfold encBool at h h'
  split at h
  · split at h'
    · injection h with h
      injection h' with h'
      rw [← h] at h'
      injection h' with h'
      rw [h']
    · cases h'
  · cases h
section
variable {P : Program} {w0 w : World} {L : List Ent} {k e t : TypeId} {enc : Value → Option Lit} {z : Lit} {n i mb : Nat} {F : Int → Value}
theorem MapP.mono {o : Obj} (h : MapP P k enc z n F o) {m : Nat} (hm : n ≤ m) : MapP P k enc z m F o := by
  obtain ⟨es, c, h1, h2, h3, h4⟩ := h
  exact ⟨es, c, h1, h2, Nat.le_trans h3 hm, h4⟩
theorem Own.mapMono (h : Own w0 w ((mb, MapP P k enc z n F) :: L)) {m : Nat} (hm : n ≤ m) : Own w0 w ((mb, MapP P k enc z m F) :: L) :=
  ⟨h.below, h.nodup, fun x hx => by
    rcases List.mem_cons.1 hx with rfl | hx
    · exact h.base (mb, MapP P k enc z n F) (List.mem_cons_self ..)
    · exact h.base x (List.mem_cons_of_mem _ hx), fun x hx => by
    rcases List.mem_cons.1 hx with rfl | hx
    · obtain ⟨o, ho, hp⟩ := h.at_ (mb, MapP P k enc z n F) (List.mem_cons_self ..)
      exact ⟨o, ho, hp.mono hm⟩
    · exact h.at_ x (List.mem_cons_of_mem _ hx)⟩
theorem Own.mapAt (h : Own w0 w L) (hi : L[i]? = some (mb, MapP P k enc z n F)) : ∃ D : DataW Unit, w.ownsMap P k (rdE enc) mb n D ∧ ∀ key : Int, (Lit.int .i64 key).wf = true → ∃ l, enc (F key) = some l ∧ D.atKey (.int .i64 key) (.lit z) = .lit l := by
  obtain ⟨o, ho, es, c, rfl, h2, h3, h4⟩ := h.at_i i hi
  exact ⟨_, ⟨es, c, ho, h2, h3, rfl⟩, h4⟩
theorem mapP_of {D : DataW Unit} (h : w.ownsMap P k (rdE enc) mb n D) (hF : ∀ key : Int, (Lit.int .i64 key).wf = true → ∃ l, enc (F key) = some l ∧ D.atKey (.int .i64 key) (.lit z) = .lit l) : ∃ o, w.heap[mb]? = some o ∧ MapP P k enc z n F o := by
  obtain ⟨es, c, h1, h2, h3, rfl⟩ := h
  exact ⟨_, h1, es, c, rfl, h2, h3, hF⟩
/-- A look-up. -/
theorem Own.mapLook (h : Own w0 w L) (hi : L[i]? = some (mb, MapP P k enc z n F)) (hinj : ∀ {v v' : Value} {l : Lit}, enc v = some l → enc v' = some l → v = v') (K : Keyed P k) (hk : P.underlying k = some (.int .i64)) (ht : P.underlying t = some (.map k e)) {zv : Value} (hz : (zeroValue e).run P w = .ok zv w) (hzl : enc zv = some z) {key : Int} (hw : (Lit.int .i64 key).wf = true) :
    (Instr.lookup t (.map (some mb)) (.int .i64 key) false).run P w = .ok (F key) w := by
  obtain ⟨D, hD, hF⟩ := h.mapAt hi
  obtain ⟨v, ps, hr, hv⟩ := hD.lookup K ht hz (zd := .lit z) (zp := []) (by simp [rdE, hzl]) (Maps.keyOf_int_mk hk hw)
  obtain ⟨l, h1, h2⟩ := hF key hw
  rw [h2] at hv
  have : enc v = some l := by
    unfold rdE at hv
    cases he : enc v with
    | none => rw [he] at hv; cases hv
    | some l' => rw [he] at hv; simp at hv; rw [hv.1]
  rw [hinj h1 this]; exact hr
theorem wf_key (key : Int) : WideAt.IsKeyLit (Lit.int .i64 key) := trivial
/-- A store. -/
theorem Own.mapPut (h : Own w0 w L) (hi : L[i]? = some (mb, MapP P k enc z n F)) (K : Keyed P k) (hk : P.underlying k = some (.int .i64)) (ht : P.underlying t = some (.map k e)) (hn : n < maxLen) {key : Int} (hw : (Lit.int .i64 key).wf = true) {v : Value} {l : Lit} (hv : enc v = some l) :
    ∃ w', (Instr.mapUpdate t (.map (some mb)) (.int .i64 key) v).run P w = .ok () w' ∧ Own w0 w' (L.set i (mb, MapP P k enc z (n + 1) (fun q => if q = key then v else F q))) := by
  obtain ⟨D, hD, hF⟩ := h.mapAt hi
  obtain ⟨w', hr, h1, h2⟩ := hD.update K ht hn (val := v) (d := .lit l) (ps := []) (Maps.keyOf_int_mk hk hw) (by simp [rdE, hv])
  obtain ⟨o, ho, hp⟩ := mapP_of (F := fun q => if q = key then v else F q) (z := z) h1 (fun q hq => by
    by_cases e : q = key
    · subst e
      exact ⟨l, by simp [hv], Maps.atKey_put_same hD.isMap (wf_key _) _ _⟩
    · obtain ⟨l', k1, k2⟩ := hF q hq
      exact ⟨l', by simp [e, k1], by rw [Maps.atKey_put_other (fun h => e (by injection h))]; exact k2⟩)
  exact ⟨w', hr, h.grown i hi h2 ho hp⟩
/-- A key goes. -/
theorem Own.mapDel (h : Own w0 w L) (hi : L[i]? = some (mb, MapP P k enc z n F)) (K : Keyed P k) (hk : P.underlying k = some (.int .i64)) (ht : P.underlying t = some (.map k e)) {zv : Value} (hzl : enc zv = some z) {key : Int} (hw : (Lit.int .i64 key).wf = true) (ty : TypeId) :
    ∃ w', (Builtin.delete_ #[t, k] ty #[.map (some mb), .int .i64 key]).run P w = .ok (.tuple #[]) w' ∧ Own w0 w' (L.set i (mb, MapP P k enc z n (fun q => if q = key then zv else F q))) := by
  obtain ⟨D, hD, hF⟩ := h.mapAt hi
  obtain ⟨w', hr, h1, h2⟩ := hD.drop K ht (Maps.keyOf_int_mk hk hw) ty
  obtain ⟨o, ho, hp⟩ := mapP_of (F := fun q => if q = key then zv else F q) (z := z) h1 (fun q hq => by
    by_cases e : q = key
    · subst e
      exact ⟨z, by simp [hzl], Maps.atKey_del_same _⟩
    · obtain ⟨l', k1, k2⟩ := hF q hq
      exact ⟨l', by simp [e, k1], by rw [Maps.atKey_del_other (fun h => e (by injection h))]; exact k2⟩)
  exact ⟨w', hr, h.grown i hi h2.grown ho hp⟩
end
section
variable {P : Program} {ops : Array Oper} {rest : List Oper} {o : Oper} {a : Act} {Q : Exit → Act → World → Prop} {K' : Act → World → Prop} {E : Prop} {w0 W : World} {L : List Ent} {k e t : TypeId} {enc : Value → Option Lit} {z : Lit} {n i mb : Nat} {F : Int → Value}
theorem wp_look {m x : Operand} (ho : o.op = .lookup t m x false) (hm : a.eval m = .map (some mb)) {key : Int} (hx : a.eval x = .int .i64 key) (h : Own w0 W L) (hi : L[i]? = some (mb, MapP P k enc z n F)) (hinj : ∀ {v v' : Value} {l : Lit}, enc v = some l → enc v' = some l → v = v') (K : Keyed P k) (hk : P.underlying k = some (.int .i64)) (ht : P.underlying t = some (.map k e)) {zv : Value} (hz : (zeroValue e).run P W = .ok zv W) (hzl : enc zv = some z) (hw : (Lit.int .i64 key).wf = true)
    {v : Value} (hv : F key = v) (hK : K' (a.put o.dst v) W) : o.wp P a W K' Q := by
  refine wp_run ?_ hK
  unfold execOp
  simp only [ho, hm, hx, h.mapLook hi hinj K hk ht hz hzl hw, Sem.run_bind, Result.andThen_ok, Sem.run_pure, hv]
theorem li_look (i : Nat) {m x : Operand} (ho : o.op = .lookup t m x false) (hg : Region.wanted o (yielded ops a.tmps) = true) (hm : a.eval m = .map (some mb)) {key : Int} (hx : a.eval x = .int .i64 key) (h : Own w0 W L) (hi : L[i]? = some (mb, MapP P k enc z n F)) (hinj : ∀ {v v' : Value} {l : Lit}, enc v = some l → enc v' = some l → v = v') (K : Keyed P k) (hk : P.underlying k = some (.int .i64)) (ht : P.underlying t = some (.map k e)) {zv : Value} (hz : (zeroValue e).run P W = .ok zv W) (hzl : enc zv = some z) (hw : (Lit.int .i64 key).wf = true)
    {v : Value} (hv : F key = v) (hK : wpList P ops Q rest (a.put o.dst v) W) : wpList P ops Q (o :: rest) a W :=
  ev_list hg fun _ hK' => wp_look ho hm hx h hi hinj K hk ht hz hzl hw hv (hK' _ _ hK)
theorem wp_mapPut {m x y : Operand} (ho : o.op = .mapUpdate t m x y) (hN : o.dst = none) (hm : a.eval m = .map (some mb)) {key : Int} (hx : a.eval x = .int .i64 key) {v : Value} {l : Lit} (hy : a.eval y = v) (hv : enc v = some l) (h : Own w0 W L) (hi : L[i]? = some (mb, MapP P k enc z n F)) (K : Keyed P k) (hk : P.underlying k = some (.int .i64)) (ht : P.underlying t = some (.map k e)) (hn : n < maxLen) (hw : (Lit.int .i64 key).wf = true)
    (hK : ∀ w1, Own w0 w1 (L.set i (mb, MapP P k enc z (n + 1) (fun q => if q = key then v else F q))) → K' a w1) : o.wp P a W K' Q := by
  obtain ⟨w', hr, h1⟩ := h.mapPut hi K hk ht hn hw hv
  refine wp_skip hN (w1 := w') ?_ (hK _ h1)
  unfold execOp
  simp only [ho, hm, hx, hy, hr, Sem.run_bind, Result.andThen_ok, Sem.run_pure]
theorem li_mapPut (i : Nat) {m x y : Operand} (ho : o.op = .mapUpdate t m x y) (hg : Region.wanted o (yielded ops a.tmps) = true) (hN : o.dst = none) (hm : a.eval m = .map (some mb)) {key : Int} (hx : a.eval x = .int .i64 key) {v : Value} {l : Lit} (hy : a.eval y = v) (hv : enc v = some l) (h : Own w0 W L) (hi : L[i]? = some (mb, MapP P k enc z n F)) (K : Keyed P k) (hk : P.underlying k = some (.int .i64)) (ht : P.underlying t = some (.map k e)) (hn : n < maxLen) (hw : (Lit.int .i64 key).wf = true)
    (hK : ∀ w1, Own w0 w1 (L.set i (mb, MapP P k enc z (n + 1) (fun q => if q = key then v else F q))) → wpList P ops Q rest a w1) : wpList P ops Q (o :: rest) a W :=
  ev_list hg fun _ hK' => wp_mapPut ho hN hm hx hy hv h hi K hk ht hn hw fun w1 h1 => hK' _ _ (hK w1 h1)
theorem wp_mapDel {m x : Operand} (ho : o.op = .call { callee := .builtin .delete, args := #[m, x], argTypes := #[t, k] }) (hm : a.eval m = .map (some mb)) {key : Int} (hx : a.eval x = .int .i64 key) (h : Own w0 W L) (hi : L[i]? = some (mb, MapP P k enc z n F)) (K : Keyed P k) (hk : P.underlying k = some (.int .i64)) (ht : P.underlying t = some (.map k e)) {zv : Value} (hzl : enc zv = some z) (hw : (Lit.int .i64 key).wf = true)
    (hK : ∀ w1, Own w0 w1 (L.set i (mb, MapP P k enc z n (fun q => if q = key then zv else F q))) → K' (a.put o.dst (.tuple #[])) w1) : o.wp P a W K' Q := by
  obtain ⟨w', hr, h1⟩ := h.mapDel hi K hk ht hzl hw o.type
  unfold Oper.wp execOp
  simp only [ho, resolve, invoke, builtin, Sem.run_bind, Sem.run_pure, Result.andThen_ok, List.map_toArray, List.map_cons, List.map_nil, hm, hx, hr]
  exact hK w' h1
theorem li_mapDel (i : Nat) {m x : Operand} (ho : o.op = .call { callee := .builtin .delete, args := #[m, x], argTypes := #[t, k] }) (hg : Region.wanted o (yielded ops a.tmps) = true) (hm : a.eval m = .map (some mb)) {key : Int} (hx : a.eval x = .int .i64 key) (h : Own w0 W L) (hi : L[i]? = some (mb, MapP P k enc z n F)) (K : Keyed P k) (hk : P.underlying k = some (.int .i64)) (ht : P.underlying t = some (.map k e)) {zv : Value} (hzl : enc zv = some z) (hw : (Lit.int .i64 key).wf = true)
    (hK : ∀ w1, Own w0 w1 (L.set i (mb, MapP P k enc z n (fun q => if q = key then zv else F q))) → wpList P ops Q rest (a.put o.dst (.tuple #[])) w1) : wpList P ops Q (o :: rest) a W :=
  ev_list hg fun _ hK' => wp_mapDel ho hm hx h hi K hk ht hzl hw fun w1 h1 => hK' _ _ (hK w1 h1)
theorem wp_makeMap (ho : o.op = .makeMap t none) {zv : Value} (hzl : enc zv = some z) (h : Own w0 W L)
    (hK : ∀ g w1, Own w0 w1 ((g, MapP P k enc z 0 (fun _ => zv)) :: L) → K' (a.put o.dst (.map (some g))) w1) : o.wp P a W K' Q := by
  have h1 := World.ownsMap_made W P k (rdE enc)
  obtain ⟨ob, hob, hp⟩ := mapP_of (F := fun _ => zv) (z := z) h1 (fun q hq => ⟨z, hzl, by simp [DataW.atKey]⟩)
  have hob' : ob = .map #[] 0 := by
    have := heap_alloc_new W (.map #[] 0)
    rw [this] at hob
    injection hob with hob; exact hob.symm
  subst hob'
  refine wp_run (v := .map (some W.heap.size)) (w1 := W.alloc (.map #[] 0)) ?_ (hK _ _ (h.alloc _ hp))
  unfold execOp
  simp [ho, Instr.makeMap, Sem.run_bind]
theorem li_makeMap (ho : o.op = .makeMap t none) (hg : Region.wanted o (yielded ops a.tmps) = true) {zv : Value} (hzl : enc zv = some z) (h : Own w0 W L)
    (hK : ∀ g w1, Own w0 w1 ((g, MapP P k enc z 0 (fun _ => zv)) :: L) → wpList P ops Q rest (a.put o.dst (.map (some g))) w1) : wpList P ops Q (o :: rest) a W :=
  ev_list hg fun _ hK' => wp_makeMap ho hzl h fun g w1 h1 => hK' _ _ (hK g w1 h1)
end
end Go.Proofs.Ytkkgajlddlnghaa

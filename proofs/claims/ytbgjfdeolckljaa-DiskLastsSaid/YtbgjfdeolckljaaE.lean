/- Laws at single operations over 'Own': a box, a new variable, a load, a store. No program in sight. -/
import Derived.Test.YtbgjfdeolckljaaK
namespace Go.Proofs.Ytbgjfdeolckljaa
set_option linter.unusedVariables false
set_option linter.unusedSimpArgs false
set_option linter.unnecessarySimpa false
open Go.RowKit
section
variable {P : Program} {ops : Array Oper} {rest : List Oper} {o : Oper} {a : Act} {Q : Exit → Act → World → Prop} {K : Act → World → Prop} {E : Prop} {w0 W : World} {L : List Ent}
theorem ev_list (hw : Region.wanted o (yielded ops a.tmps) = true) (h : ∀ K : Act → World → Prop, (∀ a w, wpList P ops Q rest a w → K a w) → o.wp P a W K Q) : wpList P ops Q (o :: rest) a W :=
  wpList_step fun K hK => by rw [if_pos hw]; exact h K hK
theorem ev_step (hw : Region.wanted o (yielded ops a.tmps) = true) (h : o.wp P a W K Q) : if Region.wanted o (yielded ops a.tmps) = true then Oper.wp P o a W K Q else E := by
  rw [if_pos hw]; exact h
theorem wp_run {v : Value} {w1 : World} (hrun : (execOp a.eval o).run P W = .ok (.value v) w1) (h : K (a.put o.dst v) w1) : o.wp P a W K Q := by
  unfold Oper.wp; rw [hrun]; exact h
theorem wp_skip {w1 : World} (hN : o.dst = none) (hrun : (execOp a.eval o).run P W = .ok .skip w1) (h : K a w1) : o.wp P a W K Q := by
  unfold Oper.wp; rw [hrun]
  show K (a.put o.dst undef) w1
  rw [hN]; exact h

/-- Is a variable of this type several cells? -/
def rowB (P : Program) (t : TypeId) : Bool := match P.underlying t with | some d => d.isRow | none => true
theorem run_loadVar_one {t : TypeId} {ad : Addr} {v : Value} (hd : rowB P t = false) (hc : W.cell? ad = some v) : (loadVar t ad).run P W = .ok v W := by
  unfold rowB at hd
  cases hu : P.underlying t with
  | none => rw [hu] at hd; cases hd
  | some d =>
    rw [hu] at hd
    have hagg : (isAgg t).run P W = .ok false W := by
      unfold isAgg
      rw [Sem.run_bind, run_underlying hu W]
      cases d <;> simp_all [TypeDesc.isRow]
    simp [loadVar, Sem.run_bind, hagg, hc]
theorem run_loadVar_agg {t : TypeId} {b off n : Nat} {vs : List Value} (hd : rowB P t = true) (hi : (P.info? t).map (·.size) = some n) (hu : (P.underlying t).isSome = true) (hl : vs.length = n) (hc : W.rangeAt b off vs) : (loadVar t ⟨b, off, none⟩).run P W = .ok (.agg vs.toArray) W := by
  unfold rowB at hd
  cases he : P.underlying t with
  | none => rw [he] at hu; cases hu
  | some d =>
    rw [he] at hd
    exact run_loadVar_mid (P := P) W b off t vs d hc he hd (by rw [hi, hl])
theorem run_storeVar_any {t : TypeId} {b off : Nat} {v : Value} {vs : List Value} (hv : v.cells.toList = vs) (ht : W.there b off vs.length) (hi : (P.info? t).map (·.size) = some vs.length) (h1 : vs.all (·.oneCell') = true) :
    (storeVar t ⟨b, off, none⟩ v).run P W = .ok () (W.setCells b off vs) := by
  subst hv
  have := run_storeCells_cells (P := P) b off v.cells.toList 0 W (fun j hj => by simpa using (ht j hj).1) (fun j hj => by simpa using (ht j hj).2) (fun u hu => List.all_eq_true.1 h1 u hu)
  cases hq : P.info? t with
  | none => simp [hq] at hi
  | some i =>
    have hs : v.cells.size = i.size := by simp [hq] at hi; omega
    simp only [Nat.add_zero] at this
    simp [storeVar, sizeOf, typeInfo, hq, hs, this]

theorem wp_box {t : TypeId} {x : Operand} (ho : o.op = .box t x) {cs : List Value} (hx : (a.eval x).cells.toList = cs) (HO : Own w0 W L)
    (h : ∀ g w1, Own w0 w1 ((g, CellsP t cs) :: L) → K (a.put o.dst (.pointer (some ⟨g, 0, none⟩))) w1) : o.wp P a W K Q := by
  refine wp_run (v := .pointer (some ⟨W.heap.size, 0, none⟩)) (w1 := W.alloc (.cells (a.eval x).cells t (0, 0))) ?_ (h _ _ (HO.alloc _ (by rw [← hx]; exact (congrArg (fun c => Obj.cells c t (0, 0)) Array.toArray_toList.symm))))
  unfold execOp
  simp [ho, Instr.box, newVar, newRow, Sem.run_bind]
theorem wp_alloc {t : TypeId} (ho : o.op = .alloc t) {z : Value} {cs : List Value} (hz : (P.info? t).bind (·.zero) = some z) (hx : z.cells.toList = cs) (HO : Own w0 W L)
    (h : ∀ g w1, Own w0 w1 ((g, CellsP t cs) :: L) → K (a.put o.dst (.pointer (some ⟨g, 0, none⟩))) w1) : o.wp P a W K Q := by
  refine wp_run (v := .pointer (some ⟨W.heap.size, 0, none⟩)) (w1 := W.alloc (.cells z.cells t (0, 0))) ?_ (h _ _ (HO.alloc _ (by rw [← hx]; exact (congrArg (fun c => Obj.cells c t (0, 0)) Array.toArray_toList.symm))))
  cases hq : P.info? t with
  | none => rw [hq] at hz; cases hz
  | some i =>
    have hz' : i.zero = some z := by rw [hq] at hz; exact hz
    unfold execOp
    simp [ho, Instr.alloc, zeroValue, typeInfo, hq, hz', newVar, newRow, Sem.run_bind]
theorem wp_load (i : Nat) (t : TypeId) {x : Operand} (ho : o.op = .load t x) {g off : Nat} (hx : a.eval x = .pointer (some ⟨g, off, none⟩)) (HO : Own w0 W L) {t' : TypeId} {xs : List Value} (hi : L[i]? = some (g, CellsP t' xs))
    {v : Value} (hv : xs[off]? = some v) (hd : rowB P t = false) (h : K (a.put o.dst v) W) : o.wp P a W K Q := by
  refine wp_run ?_ h
  unfold execOp
  simp only [ho, hx, Instr.loadAt, Instr.sureAddr, Sem.run_bind, Sem.run_pure, Result.andThen_ok, run_loadVar_one hd (HO.cell i hi off hv)]
theorem wp_loadAgg (i : Nat) (t n : Nat) {x : Operand} (ho : o.op = .load t x) {g off : Nat} (hx : a.eval x = .pointer (some ⟨g, off, none⟩)) (HO : Own w0 W L) {t' : TypeId} {xs : List Value} (hi : L[i]? = some (g, CellsP t' xs))
    {vs : List Value} (hv : (xs.drop off).take n = vs) (hl : vs.length = n) (hd : rowB P t = true) (hu : (P.underlying t).isSome = true) (hs : (P.info? t).map (·.size) = some n) (h : K (a.put o.dst (.agg vs.toArray)) W) : o.wp P a W K Q := by
  refine wp_run ?_ h
  unfold execOp
  simp only [ho, hx, Instr.loadAt, Instr.sureAddr, Sem.run_bind, Sem.run_pure, Result.andThen_ok, run_loadVar_agg hd hs hu hl (HO.range i hi off vs (by rw [hl, hv]))]
theorem wp_store (i : Nat) {t : TypeId} {x y : Operand} (ho : o.op = .store t x y) (hN : o.dst = none) {g off : Nat} (hx : a.eval x = .pointer (some ⟨g, off, none⟩)) (HO : Own w0 W L) {t' : TypeId} {xs : List Value} (hi : L[i]? = some (g, CellsP t' xs))
    {vs : List Value} (hy : (a.eval y).cells.toList = vs) (h1 : vs.all (·.oneCell') = true) (hf : off + vs.length ≤ xs.length) (hs : (P.info? t).map (·.size) = some vs.length)
    (h : ∀ w1, Own w0 w1 (L.set i (g, CellsP t' (splice xs off vs))) → K a w1) : o.wp P a W K Q := by
  refine wp_skip hN (w1 := W.setCells g off vs) ?_ (h _ (HO.setCells i hi off vs hf))
  unfold execOp
  simp only [ho, hx, Instr.storeAt, Instr.sureAddr, Sem.run_bind, Sem.run_pure, Result.andThen_ok, run_storeVar_any hy (HO.there i hi off vs.length hf) hs h1]

/-! The same at the list of a plain region, and at a step of a region that draws. -/
theorem li_box {t : TypeId} {x : Operand} (ho : o.op = .box t x) (hw : Region.wanted o (yielded ops a.tmps) = true) {cs : List Value} (hx : (a.eval x).cells.toList = cs) (HO : Own w0 W L)
    (h : ∀ g w1, Own w0 w1 ((g, CellsP t cs) :: L) → wpList P ops Q rest (a.put o.dst (.pointer (some ⟨g, 0, none⟩))) w1) : wpList P ops Q (o :: rest) a W :=
  ev_list hw fun _ hK => wp_box ho hx HO fun g w1 h1 => hK _ _ (h g w1 h1)
theorem li_alloc {t : TypeId} (ho : o.op = .alloc t) (hw : Region.wanted o (yielded ops a.tmps) = true) {z : Value} {cs : List Value} (hz : (P.info? t).bind (·.zero) = some z) (hx : z.cells.toList = cs) (HO : Own w0 W L)
    (h : ∀ g w1, Own w0 w1 ((g, CellsP t cs) :: L) → wpList P ops Q rest (a.put o.dst (.pointer (some ⟨g, 0, none⟩))) w1) : wpList P ops Q (o :: rest) a W :=
  ev_list hw fun _ hK => wp_alloc ho hz hx HO fun g w1 h1 => hK _ _ (h g w1 h1)
theorem li_load (i : Nat) (t : TypeId) {x : Operand} (ho : o.op = .load t x) (hw : Region.wanted o (yielded ops a.tmps) = true) {g off : Nat} (hx : a.eval x = .pointer (some ⟨g, off, none⟩)) (HO : Own w0 W L) {t' : TypeId} {xs : List Value} (hi : L[i]? = some (g, CellsP t' xs))
    {v : Value} (hv : xs[off]? = some v) (hd : rowB P t = false) (h : wpList P ops Q rest (a.put o.dst v) W) : wpList P ops Q (o :: rest) a W :=
  ev_list hw fun _ hK => wp_load i t ho hx HO hi hv hd (hK _ _ h)
theorem li_loadAgg (i : Nat) (t n : Nat) {x : Operand} (ho : o.op = .load t x) (hw : Region.wanted o (yielded ops a.tmps) = true) {g off : Nat} (hx : a.eval x = .pointer (some ⟨g, off, none⟩)) (HO : Own w0 W L) {t' : TypeId} {xs : List Value} (hi : L[i]? = some (g, CellsP t' xs))
    {vs : List Value} (hv : (xs.drop off).take n = vs) (hl : vs.length = n) (hd : rowB P t = true) (hu : (P.underlying t).isSome = true) (hs : (P.info? t).map (·.size) = some n) (h : wpList P ops Q rest (a.put o.dst (.agg vs.toArray)) W) : wpList P ops Q (o :: rest) a W :=
  ev_list hw fun _ hK => wp_loadAgg i t n ho hx HO hi hv hl hd hu hs (hK _ _ h)
theorem li_store (i : Nat) {t : TypeId} {x y : Operand} (ho : o.op = .store t x y) (hw : Region.wanted o (yielded ops a.tmps) = true) (hN : o.dst = none) {g off : Nat} (hx : a.eval x = .pointer (some ⟨g, off, none⟩)) (HO : Own w0 W L) {t' : TypeId} {xs : List Value} (hi : L[i]? = some (g, CellsP t' xs))
    {vs : List Value} (hy : (a.eval y).cells.toList = vs) (h1 : vs.all (·.oneCell') = true) (hf : off + vs.length ≤ xs.length) (hs : (P.info? t).map (·.size) = some vs.length)
    (h : ∀ w1, Own w0 w1 (L.set i (g, CellsP t' (splice xs off vs))) → wpList P ops Q rest a w1) : wpList P ops Q (o :: rest) a W :=
  ev_list hw fun _ hK => wp_store i ho hN hx HO hi hy h1 hf hs fun w1 hh => hK _ _ (h w1 hh)

/-! Stores by the value's shape (so that what is stored is read off the frame); whole structs. -/
theorem splice_one (xs : List Value) (off : Nat) (v : Value) (h : off + 1 ≤ xs.length) : splice xs off [v] = xs.set off v := by
  unfold splice
  rw [List.set_eq_take_append_cons_drop, if_pos (by omega)]
  rfl
theorem splice_all (xs vs : List Value) (h : vs.length = xs.length) : splice xs 0 vs = vs := by
  unfold splice
  simp [h]
theorem li_storeInt (i : Nat) (t : TypeId) {x y : Operand} (ho : o.op = .store t x y) (hw : Region.wanted o (yielded ops a.tmps) = true) (hN : o.dst = none) {g off : Nat} (hx : a.eval x = .pointer (some ⟨g, off, none⟩)) (HO : Own w0 W L) {t' : TypeId} {xs : List Value} (hi : L[i]? = some (g, CellsP t' xs))
    {k : IntKind} {n : Int} (hy : a.eval y = .int k n) (hf : off + 1 ≤ xs.length) (hs : (P.info? t).map (·.size) = some 1)
    (h : ∀ w1, Own w0 w1 (L.set i (g, CellsP t' (xs.set off (.int k n)))) → wpList P ops Q rest a w1) : wpList P ops Q (o :: rest) a W :=
  li_store i ho hw hN hx HO hi (vs := [.int k n]) (by rw [hy]; rfl) rfl hf hs (by rw [splice_one xs off _ hf]; exact h)
theorem li_storeBool (i : Nat) (t : TypeId) {x y : Operand} (ho : o.op = .store t x y) (hw : Region.wanted o (yielded ops a.tmps) = true) (hN : o.dst = none) {g off : Nat} (hx : a.eval x = .pointer (some ⟨g, off, none⟩)) (HO : Own w0 W L) {t' : TypeId} {xs : List Value} (hi : L[i]? = some (g, CellsP t' xs))
    {b : Bool} (hy : a.eval y = .bool b) (hf : off + 1 ≤ xs.length) (hs : (P.info? t).map (·.size) = some 1)
    (h : ∀ w1, Own w0 w1 (L.set i (g, CellsP t' (xs.set off (.bool b)))) → wpList P ops Q rest a w1) : wpList P ops Q (o :: rest) a W :=
  li_store i ho hw hN hx HO hi (vs := [.bool b]) (by rw [hy]; rfl) rfl hf hs (by rw [splice_one xs off _ hf]; exact h)
theorem li_storeStr (i : Nat) (t : TypeId) {x y : Operand} (ho : o.op = .store t x y) (hw : Region.wanted o (yielded ops a.tmps) = true) (hN : o.dst = none) {g off : Nat} (hx : a.eval x = .pointer (some ⟨g, off, none⟩)) (HO : Own w0 W L) {t' : TypeId} {xs : List Value} (hi : L[i]? = some (g, CellsP t' xs))
    {s : ByteArray} (hy : a.eval y = .string s) (hf : off + 1 ≤ xs.length) (hs : (P.info? t).map (·.size) = some 1)
    (h : ∀ w1, Own w0 w1 (L.set i (g, CellsP t' (xs.set off (.string s)))) → wpList P ops Q rest a w1) : wpList P ops Q (o :: rest) a W :=
  li_store i ho hw hN hx HO hi (vs := [.string s]) (by rw [hy]; rfl) rfl hf hs (by rw [splice_one xs off _ hf]; exact h)
theorem li_storePtr (i : Nat) (t : TypeId) {x y : Operand} (ho : o.op = .store t x y) (hw : Region.wanted o (yielded ops a.tmps) = true) (hN : o.dst = none) {g off : Nat} (hx : a.eval x = .pointer (some ⟨g, off, none⟩)) (HO : Own w0 W L) {t' : TypeId} {xs : List Value} (hi : L[i]? = some (g, CellsP t' xs))
    {q : Option Addr} (hy : a.eval y = .pointer q) (hf : off + 1 ≤ xs.length) (hs : (P.info? t).map (·.size) = some 1)
    (h : ∀ w1, Own w0 w1 (L.set i (g, CellsP t' (xs.set off (.pointer q)))) → wpList P ops Q rest a w1) : wpList P ops Q (o :: rest) a W :=
  li_store i ho hw hN hx HO hi (vs := [.pointer q]) (by rw [hy]; rfl) rfl hf hs (by rw [splice_one xs off _ hf]; exact h)
theorem li_storeSlice (i : Nat) (t : TypeId) {x y : Operand} (ho : o.op = .store t x y) (hw : Region.wanted o (yielded ops a.tmps) = true) (hN : o.dst = none) {g off : Nat} (hx : a.eval x = .pointer (some ⟨g, off, none⟩)) (HO : Own w0 W L) {t' : TypeId} {xs : List Value} (hi : L[i]? = some (g, CellsP t' xs))
    {q : Option Addr} {n c : Nat} (hy : a.eval y = .slice q n c) (hf : off + 1 ≤ xs.length) (hs : (P.info? t).map (·.size) = some 1)
    (h : ∀ w1, Own w0 w1 (L.set i (g, CellsP t' (xs.set off (.slice q n c)))) → wpList P ops Q rest a w1) : wpList P ops Q (o :: rest) a W :=
  li_store i ho hw hN hx HO hi (vs := [.slice q n c]) (by rw [hy]; rfl) rfl hf hs (by rw [splice_one xs off _ hf]; exact h)
theorem li_storeMap (i : Nat) (t : TypeId) {x y : Operand} (ho : o.op = .store t x y) (hw : Region.wanted o (yielded ops a.tmps) = true) (hN : o.dst = none) {g off : Nat} (hx : a.eval x = .pointer (some ⟨g, off, none⟩)) (HO : Own w0 W L) {t' : TypeId} {xs : List Value} (hi : L[i]? = some (g, CellsP t' xs))
    {q : Option Nat} (hy : a.eval y = .map q) (hf : off + 1 ≤ xs.length) (hs : (P.info? t).map (·.size) = some 1)
    (h : ∀ w1, Own w0 w1 (L.set i (g, CellsP t' (xs.set off (.map q)))) → wpList P ops Q rest a w1) : wpList P ops Q (o :: rest) a W :=
  li_store i ho hw hN hx HO hi (vs := [.map q]) (by rw [hy]; rfl) rfl hf hs (by rw [splice_one xs off _ hf]; exact h)
theorem li_storeAgg (i : Nat) (t : TypeId) {x y : Operand} (ho : o.op = .store t x y) (hw : Region.wanted o (yielded ops a.tmps) = true) (hN : o.dst = none) {g : Nat} (hx : a.eval x = .pointer (some ⟨g, 0, none⟩)) (HO : Own w0 W L) {t' : TypeId} {xs : List Value} (hi : L[i]? = some (g, CellsP t' xs))
    {vs : List Value} (hy : a.eval y = .agg ⟨vs⟩) (h1 : vs.all (·.oneCell') = true) (hf : vs.length = xs.length) (hs : (P.info? t).map (·.size) = some vs.length)
    (h : ∀ w1, Own w0 w1 (L.set i (g, CellsP t' vs)) → wpList P ops Q rest a w1) : wpList P ops Q (o :: rest) a W :=
  li_store i ho hw hN hx HO hi (vs := vs) (by rw [hy]; rfl) h1 (by omega) hs (by rw [splice_all xs vs hf]; exact h)
theorem li_loadWhole (i : Nat) (t n : Nat) {x : Operand} (ho : o.op = .load t x) (hw : Region.wanted o (yielded ops a.tmps) = true) {g : Nat} (hx : a.eval x = .pointer (some ⟨g, 0, none⟩)) (HO : Own w0 W L) {t' : TypeId} {xs : List Value} (hi : L[i]? = some (g, CellsP t' xs))
    (hl : xs.length = n) (hd : rowB P t = true) (hu : (P.underlying t).isSome = true) (hs : (P.info? t).map (·.size) = some n) (h : wpList P ops Q rest (a.put o.dst (.agg ⟨xs⟩)) W) : wpList P ops Q (o :: rest) a W :=
  li_loadAgg i t n ho hw hx HO hi (vs := xs) (by rw [List.drop_zero, List.take_of_length_le (by omega)]) hl hd hu hs h
theorem li_boxAgg (t : TypeId) {x : Operand} (ho : o.op = .box t x) (hw : Region.wanted o (yielded ops a.tmps) = true) {cs : List Value} (hx : a.eval x = .agg ⟨cs⟩) (HO : Own w0 W L)
    (h : ∀ g w1, Own w0 w1 ((g, CellsP t cs) :: L) → wpList P ops Q rest (a.put o.dst (.pointer (some ⟨g, 0, none⟩))) w1) : wpList P ops Q (o :: rest) a W :=
  li_box ho hw (by rw [hx]; rfl) HO h
/-! The same as one step of a region that draws its order. -/
theorem st_boxAgg (t : TypeId) {x : Operand} (ho : o.op = .box t x) (hw : Region.wanted o (yielded ops a.tmps) = true) {cs : List Value} (hx : a.eval x = .agg ⟨cs⟩) (HO : Own w0 W L)
    (h : ∀ g w1, Own w0 w1 ((g, CellsP t cs) :: L) → K (a.put o.dst (.pointer (some ⟨g, 0, none⟩))) w1) : if Region.wanted o (yielded ops a.tmps) = true then Oper.wp P o a W K Q else E :=
  ev_step hw (wp_box ho (by rw [hx]; rfl) HO h)
theorem st_alloc {t : TypeId} (ho : o.op = .alloc t) (hw : Region.wanted o (yielded ops a.tmps) = true) {z : Value} {cs : List Value} (hz : (P.info? t).bind (·.zero) = some z) (hx : z.cells.toList = cs) (HO : Own w0 W L)
    (h : ∀ g w1, Own w0 w1 ((g, CellsP t cs) :: L) → K (a.put o.dst (.pointer (some ⟨g, 0, none⟩))) w1) : if Region.wanted o (yielded ops a.tmps) = true then Oper.wp P o a W K Q else E :=
  ev_step hw (wp_alloc ho hz hx HO h)
theorem st_storeInt (i : Nat) (t : TypeId) {x y : Operand} (ho : o.op = .store t x y) (hw : Region.wanted o (yielded ops a.tmps) = true) (hN : o.dst = none) {g off : Nat} (hx : a.eval x = .pointer (some ⟨g, off, none⟩)) (HO : Own w0 W L) {t' : TypeId} {xs : List Value} (hi : L[i]? = some (g, CellsP t' xs))
    {k : IntKind} {n : Int} (hy : a.eval y = .int k n) (hf : off + 1 ≤ xs.length) (hs : (P.info? t).map (·.size) = some 1)
    (h : ∀ w1, Own w0 w1 (L.set i (g, CellsP t' (xs.set off (.int k n)))) → K a w1) : if Region.wanted o (yielded ops a.tmps) = true then Oper.wp P o a W K Q else E :=
  ev_step hw (wp_store i ho hN hx HO hi (vs := [.int k n]) (by rw [hy]; rfl) rfl hf hs (by rw [splice_one xs off _ hf]; exact h))
theorem st_storeBool (i : Nat) (t : TypeId) {x y : Operand} (ho : o.op = .store t x y) (hw : Region.wanted o (yielded ops a.tmps) = true) (hN : o.dst = none) {g off : Nat} (hx : a.eval x = .pointer (some ⟨g, off, none⟩)) (HO : Own w0 W L) {t' : TypeId} {xs : List Value} (hi : L[i]? = some (g, CellsP t' xs))
    {b : Bool} (hy : a.eval y = .bool b) (hf : off + 1 ≤ xs.length) (hs : (P.info? t).map (·.size) = some 1)
    (h : ∀ w1, Own w0 w1 (L.set i (g, CellsP t' (xs.set off (.bool b)))) → K a w1) : if Region.wanted o (yielded ops a.tmps) = true then Oper.wp P o a W K Q else E :=
  ev_step hw (wp_store i ho hN hx HO hi (vs := [.bool b]) (by rw [hy]; rfl) rfl hf hs (by rw [splice_one xs off _ hf]; exact h))
theorem st_storeStr (i : Nat) (t : TypeId) {x y : Operand} (ho : o.op = .store t x y) (hw : Region.wanted o (yielded ops a.tmps) = true) (hN : o.dst = none) {g off : Nat} (hx : a.eval x = .pointer (some ⟨g, off, none⟩)) (HO : Own w0 W L) {t' : TypeId} {xs : List Value} (hi : L[i]? = some (g, CellsP t' xs))
    {s : ByteArray} (hy : a.eval y = .string s) (hf : off + 1 ≤ xs.length) (hs : (P.info? t).map (·.size) = some 1)
    (h : ∀ w1, Own w0 w1 (L.set i (g, CellsP t' (xs.set off (.string s)))) → K a w1) : if Region.wanted o (yielded ops a.tmps) = true then Oper.wp P o a W K Q else E :=
  ev_step hw (wp_store i ho hN hx HO hi (vs := [.string s]) (by rw [hy]; rfl) rfl hf hs (by rw [splice_one xs off _ hf]; exact h))
theorem st_storePtr (i : Nat) (t : TypeId) {x y : Operand} (ho : o.op = .store t x y) (hw : Region.wanted o (yielded ops a.tmps) = true) (hN : o.dst = none) {g off : Nat} (hx : a.eval x = .pointer (some ⟨g, off, none⟩)) (HO : Own w0 W L) {t' : TypeId} {xs : List Value} (hi : L[i]? = some (g, CellsP t' xs))
    {q : Option Addr} (hy : a.eval y = .pointer q) (hf : off + 1 ≤ xs.length) (hs : (P.info? t).map (·.size) = some 1)
    (h : ∀ w1, Own w0 w1 (L.set i (g, CellsP t' (xs.set off (.pointer q)))) → K a w1) : if Region.wanted o (yielded ops a.tmps) = true then Oper.wp P o a W K Q else E :=
  ev_step hw (wp_store i ho hN hx HO hi (vs := [.pointer q]) (by rw [hy]; rfl) rfl hf hs (by rw [splice_one xs off _ hf]; exact h))
theorem st_storeSlice (i : Nat) (t : TypeId) {x y : Operand} (ho : o.op = .store t x y) (hw : Region.wanted o (yielded ops a.tmps) = true) (hN : o.dst = none) {g off : Nat} (hx : a.eval x = .pointer (some ⟨g, off, none⟩)) (HO : Own w0 W L) {t' : TypeId} {xs : List Value} (hi : L[i]? = some (g, CellsP t' xs))
    {q : Option Addr} {n c : Nat} (hy : a.eval y = .slice q n c) (hf : off + 1 ≤ xs.length) (hs : (P.info? t).map (·.size) = some 1)
    (h : ∀ w1, Own w0 w1 (L.set i (g, CellsP t' (xs.set off (.slice q n c)))) → K a w1) : if Region.wanted o (yielded ops a.tmps) = true then Oper.wp P o a W K Q else E :=
  ev_step hw (wp_store i ho hN hx HO hi (vs := [.slice q n c]) (by rw [hy]; rfl) rfl hf hs (by rw [splice_one xs off _ hf]; exact h))
theorem st_storeMap (i : Nat) (t : TypeId) {x y : Operand} (ho : o.op = .store t x y) (hw : Region.wanted o (yielded ops a.tmps) = true) (hN : o.dst = none) {g off : Nat} (hx : a.eval x = .pointer (some ⟨g, off, none⟩)) (HO : Own w0 W L) {t' : TypeId} {xs : List Value} (hi : L[i]? = some (g, CellsP t' xs))
    {q : Option Nat} (hy : a.eval y = .map q) (hf : off + 1 ≤ xs.length) (hs : (P.info? t).map (·.size) = some 1)
    (h : ∀ w1, Own w0 w1 (L.set i (g, CellsP t' (xs.set off (.map q)))) → K a w1) : if Region.wanted o (yielded ops a.tmps) = true then Oper.wp P o a W K Q else E :=
  ev_step hw (wp_store i ho hN hx HO hi (vs := [.map q]) (by rw [hy]; rfl) rfl hf hs (by rw [splice_one xs off _ hf]; exact h))
theorem st_storeAgg (i : Nat) (t : TypeId) {x y : Operand} (ho : o.op = .store t x y) (hw : Region.wanted o (yielded ops a.tmps) = true) (hN : o.dst = none) {g : Nat} (hx : a.eval x = .pointer (some ⟨g, 0, none⟩)) (HO : Own w0 W L) {t' : TypeId} {xs : List Value} (hi : L[i]? = some (g, CellsP t' xs))
    {vs : List Value} (hy : a.eval y = .agg ⟨vs⟩) (h1 : vs.all (·.oneCell') = true) (hf : vs.length = xs.length) (hs : (P.info? t).map (·.size) = some vs.length)
    (h : ∀ w1, Own w0 w1 (L.set i (g, CellsP t' vs)) → K a w1) : if Region.wanted o (yielded ops a.tmps) = true then Oper.wp P o a W K Q else E :=
  ev_step hw (wp_store i ho hN hx HO hi (vs := vs) (by rw [hy]; rfl) h1 (by omega) hs (by rw [splice_all xs vs hf]; exact h))
/-! ### Slices of the call's own: literals, loads and stores at places -/
theorem wp_bslice {e n size : Nat} {xs : List Value} (hrun : (execOp a.eval o).run P W = .ok (.value (.slice (some ⟨W.heap.size, 0, none⟩) n n)) (W.alloc (.cells ⟨xs⟩ e (0, 0)))) (hsz : xs.length = n * size) (hm : n ≤ maxLen) (HO : Own w0 W L)
    (h : ∀ g w1, Own w0 w1 ((g, RowP e size n xs) :: L) → K (a.put o.dst (.slice (some ⟨g, 0, none⟩) n n)) w1) : o.wp P a W K Q :=
  wp_run hrun (h _ _ (HO.alloc _ ⟨⟨xs⟩, rfl, List.prefix_refl _, by simpa using hsz, hm⟩))
theorem li_bslice (t : TypeId) (size : Nat) {e n : Nat} {parts : Array (Nat × Operand)} (ho : o.op = .buildSlice t n parts) (hw : Region.wanted o (yielded ops a.tmps) = true) {xs : List Value} (hrun : (execOp a.eval o).run P W = .ok (.value (.slice (some ⟨W.heap.size, 0, none⟩) n n)) (W.alloc (.cells ⟨xs⟩ e (0, 0)))) (hsz : xs.length = n * size) (hm : n ≤ maxLen) (HO : Own w0 W L)
    (h : ∀ g w1, Own w0 w1 ((g, RowP e size n xs) :: L) → wpList P ops Q rest (a.put o.dst (.slice (some ⟨g, 0, none⟩) n n)) w1) : wpList P ops Q (o :: rest) a W :=
  ev_list hw fun _ hK => wp_bslice hrun hsz hm HO fun g w1 h1 => hK _ _ (h g w1 h1)
theorem wp_loadRow (i : Nat) (t : TypeId) {x : Operand} (ho : o.op = .load t x) {g off : Nat} (hx : a.eval x = .pointer (some ⟨g, off, none⟩)) (HO : Own w0 W L) {e size cap : Nat} {xs : List Value} (hi : L[i]? = some (g, RowP e size cap xs))
    {v : Value} (hv : xs[off]? = some v) (hd : rowB P t = false) (h : K (a.put o.dst v) W) : o.wp P a W K Q := by
  refine wp_run ?_ h
  unfold execOp
  simp only [ho, hx, Instr.loadAt, Instr.sureAddr, Sem.run_bind, Sem.run_pure, Result.andThen_ok, run_loadVar_one hd (HO.rowCell i hi off hv)]
theorem li_loadRow (i : Nat) (t : TypeId) {x : Operand} (ho : o.op = .load t x) (hw : Region.wanted o (yielded ops a.tmps) = true) {g off : Nat} (hx : a.eval x = .pointer (some ⟨g, off, none⟩)) (HO : Own w0 W L) {e size cap : Nat} {xs : List Value} (hi : L[i]? = some (g, RowP e size cap xs))
    {v : Value} (hv : xs[off]? = some v) (hd : rowB P t = false) (h : wpList P ops Q rest (a.put o.dst v) W) : wpList P ops Q (o :: rest) a W :=
  ev_list hw fun _ hK => wp_loadRow i t ho hx HO hi hv hd (hK _ _ h)
theorem wp_loadRowAgg (i : Nat) (t n : Nat) {x : Operand} (ho : o.op = .load t x) {g off : Nat} (hx : a.eval x = .pointer (some ⟨g, off, none⟩)) (HO : Own w0 W L) {e size cap : Nat} {xs : List Value} (hi : L[i]? = some (g, RowP e size cap xs))
    {vs : List Value} (hv : (xs.drop off).take n = vs) (hl : vs.length = n) (hd : rowB P t = true) (hu : (P.underlying t).isSome = true) (hs : (P.info? t).map (·.size) = some n) (h : K (a.put o.dst (.agg ⟨vs⟩)) W) : o.wp P a W K Q := by
  refine wp_run ?_ h
  unfold execOp
  simp only [ho, hx, Instr.loadAt, Instr.sureAddr, Sem.run_bind, Sem.run_pure, Result.andThen_ok, run_loadVar_agg hd hs hu hl (HO.rangeRow i hi off vs (by rw [hl, hv]))]
theorem li_loadRowAgg (i : Nat) (t n : Nat) {x : Operand} (ho : o.op = .load t x) (hw : Region.wanted o (yielded ops a.tmps) = true) {g off : Nat} (hx : a.eval x = .pointer (some ⟨g, off, none⟩)) (HO : Own w0 W L) {e size cap : Nat} {xs : List Value} (hi : L[i]? = some (g, RowP e size cap xs))
    {vs : List Value} (hv : (xs.drop off).take n = vs) (hl : vs.length = n) (hd : rowB P t = true) (hu : (P.underlying t).isSome = true) (hs : (P.info? t).map (·.size) = some n) (h : wpList P ops Q rest (a.put o.dst (.agg ⟨vs⟩)) W) : wpList P ops Q (o :: rest) a W :=
  ev_list hw fun _ hK => wp_loadRowAgg i t n ho hx HO hi hv hl hd hu hs (hK _ _ h)
/-- A load of a cell, or of a range, that the world is known to hold (an argument's memory). -/
theorem li_loadAt (t : TypeId) {x : Operand} (ho : o.op = .load t x) (hw : Region.wanted o (yielded ops a.tmps) = true) {ad : Addr} (hx : a.eval x = .pointer (some ad)) {v : Value} (hc : W.cell? ad = some v) (hd : rowB P t = false) (h : wpList P ops Q rest (a.put o.dst v) W) : wpList P ops Q (o :: rest) a W :=
  ev_list hw fun _ hK => wp_run (by unfold execOp; simp only [ho, hx, Instr.loadAt, Instr.sureAddr, Sem.run_bind, Sem.run_pure, Result.andThen_ok, run_loadVar_one hd hc]) (hK _ _ h)
theorem run_loadVar_aggAt {t : TypeId} {ad : Addr} {n : Nat} {vs : List Value} (hd : rowB P t = true) (hi : (P.info? t).map (·.size) = some n) (hu : (P.underlying t).isSome = true) (hl : vs.length = n) (hc : ∀ j v, vs[j]? = some v → W.cell? (ad.add j) = some v) : (loadVar t ad).run P W = .ok (.agg ⟨vs⟩) W := by
  unfold rowB at hd
  cases he : P.underlying t with
  | none => rw [he] at hu; cases hu
  | some d =>
    rw [he] at hd
    have hl2 : (loadCells ad vs.length).run P W = .ok vs.toArray W := run_loadCells_list (P := P) W ad vs hc
    cases hq : P.info? t with
    | none => rw [hq] at hi; cases hi
    | some i =>
      have hs : i.size = vs.length := by rw [hq] at hi; simp at hi; omega
      have hagg : (isAgg t).run P W = .ok true W := by
        unfold isAgg
        rw [Sem.run_bind, run_underlying he W]
        cases d <;> simp_all [TypeDesc.isRow]
      simp [loadVar, Sem.run_bind, hagg, sizeOf, typeInfo, hq, hs, hl2]
theorem li_loadAggAt (t n : Nat) {x : Operand} (ho : o.op = .load t x) (hw : Region.wanted o (yielded ops a.tmps) = true) {ad : Addr} (hx : a.eval x = .pointer (some ad)) {vs : List Value} (hc : ∀ j v, vs[j]? = some v → W.cell? (ad.add j) = some v) (hl : vs.length = n) (hd : rowB P t = true) (hu : (P.underlying t).isSome = true) (hs : (P.info? t).map (·.size) = some n)
    (h : wpList P ops Q rest (a.put o.dst (.agg ⟨vs⟩)) W) : wpList P ops Q (o :: rest) a W :=
  ev_list hw fun _ hK => wp_run (by unfold execOp; simp only [ho, hx, Instr.loadAt, Instr.sureAddr, Sem.run_bind, Sem.run_pure, Result.andThen_ok, run_loadVar_aggAt hd hs hu hl hc]) (hK _ _ h)
/-- A cheap look at what the operation is. -/
theorem gate_load (t : TypeId) {x : Operand} (_h : o.op = .load t x) (h : wpList P ops Q (o :: rest) a W) : wpList P ops Q (o :: rest) a W := h
theorem gate_store (t : TypeId) {x y : Operand} (_h : o.op = .store t x y) (h : wpList P ops Q (o :: rest) a W) : wpList P ops Q (o :: rest) a W := h
/-- What lies in a block of a struct's own, as the function's end reads it. -/
theorem Own.loadWhole (h : Own w0 W L) (i : Nat) {g : Nat} {t' : TypeId} {xs : List Value} (hi : L[i]? = some (g, CellsP t' xs)) (t n : Nat) (hl : xs.length = n) (hd : rowB P t = true) (hu : (P.underlying t).isSome = true) (hs : (P.info? t).map (·.size) = some n) :
    (loadVar t ⟨g, 0, none⟩).run P W = .ok (.agg ⟨xs⟩) W :=
  run_loadVar_agg hd hs hu hl (h.range i hi 0 xs (by rw [List.drop_zero, List.take_length]))
end
end Go.Proofs.Ytbgjfdeolckljaa

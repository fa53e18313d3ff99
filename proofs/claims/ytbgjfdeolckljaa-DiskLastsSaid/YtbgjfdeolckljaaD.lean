/- Rows of structs of a call's own: make, a whole struct stored, blocks picked by membership. Over 'Own'. -/
import Derived.Test.YtbgjfdeolckljaaC
namespace Go.Proofs.Ytbgjfdeolckljaa
set_option linter.unusedVariables false
set_option linter.unusedSimpArgs false
set_option linter.unnecessarySimpa false
open Go.RowKit
section
variable {w0 w : World} {L M : List Ent} {g : Nat} {t e : TypeId} {size cap : Nat} {xs : List Value}
/-- Of what is owned, some blocks alone, in any order. -/
theorem Own.pick (h : Own w0 w L) (hn : (M.map (·.1)).Nodup) (hm : ∀ x ∈ M, x ∈ L) : Own w0 w M :=
  ⟨h.below, hn, fun x hx => h.base x (hm x hx), fun x hx => h.at_ x (hm x hx)⟩
theorem Own.rowCellM (h : Own w0 w L) (hm : (g, RowP e size cap xs) ∈ L) (j : Nat) {v : Value} (hj : xs[j]? = some v) : w.cell? ⟨g, j, none⟩ = some v := by
  obtain ⟨i, hi⟩ := List.getElem?_of_mem hm
  exact h.rowCell i hi j hj
theorem Own.cellsM (h : Own w0 w L) (hm : (g, CellsP t xs) ∈ L) (j : Nat) {v : Value} (hj : xs[j]? = some v) : w.cell? ⟨g, j, none⟩ = some v := by
  obtain ⟨i, hi⟩ := List.getElem?_of_mem hm
  exact h.cell i hi j hj
end
section
variable {P : Program} {ops : Array Oper} {rest : List Oper} {o : Oper} {a : Act} {Q : Exit → Act → World → Prop} {K : Act → World → Prop} {E : Prop} {w0 W : World} {L : List Ent}
/-- A struct is stored whole into a row of the call's own. -/
theorem wp_storeRowAgg (i : Nat) {t : TypeId} {x y : Operand} (ho : o.op = .store t x y) (hN : o.dst = none) {g off : Nat} (hx : a.eval x = .pointer (some ⟨g, off, none⟩)) (HO : Own w0 W L) {e : TypeId} {size cap : Nat} {xs : List Value} (hi : L[i]? = some (g, RowP e size cap xs))
    {vs : List Value} (hy : (a.eval y).cells.toList = vs) (h1 : vs.all (·.oneCell') = true) (hf : off + vs.length ≤ xs.length) (hs : (P.info? t).map (·.size) = some vs.length)
    (h : ∀ w1, Own w0 w1 (L.set i (g, RowP e size cap (splice xs off vs))) → K a w1) : o.wp P a W K Q := by
  have HO1 := HO.setRow i hi off vs hf
  refine wp_skip hN (w1 := W.setCells g off vs) ?_ (h _ HO1)
  unfold execOp
  simp only [ho, hx, Instr.storeAt, Instr.sureAddr, Sem.run_bind, Sem.run_pure, Result.andThen_ok, run_storeVar_any hy (HO.thereRow i hi off vs.length (by omega)) hs h1]
theorem li_storeRowAgg (i : Nat) {t : TypeId} {x y : Operand} (ho : o.op = .store t x y) (hw : Region.wanted o (yielded ops a.tmps) = true) (hN : o.dst = none) {g off : Nat} (hx : a.eval x = .pointer (some ⟨g, off, none⟩)) (HO : Own w0 W L) {e : TypeId} {size cap : Nat} {xs : List Value} (hi : L[i]? = some (g, RowP e size cap xs))
    {vs : List Value} (hy : (a.eval y).cells.toList = vs) (h1 : vs.all (·.oneCell') = true) (hf : off + vs.length ≤ xs.length) (hs : (P.info? t).map (·.size) = some vs.length)
    (h : ∀ w1, Own w0 w1 (L.set i (g, RowP e size cap (splice xs off vs))) → wpList P ops Q rest a w1) : wpList P ops Q (o :: rest) a W :=
  ev_list hw fun _ hK => wp_storeRowAgg i ho hN hx HO hi hy h1 hf hs fun w1 h1 => hK _ _ (h w1 h1)
theorem st_storeRowAgg (i : Nat) {t : TypeId} {x y : Operand} (ho : o.op = .store t x y) (hw : Region.wanted o (yielded ops a.tmps) = true) (hN : o.dst = none) {g off : Nat} (hx : a.eval x = .pointer (some ⟨g, off, none⟩)) (HO : Own w0 W L) {e : TypeId} {size cap : Nat} {xs : List Value} (hi : L[i]? = some (g, RowP e size cap xs))
    {vs : List Value} (hy : (a.eval y).cells.toList = vs) (h1 : vs.all (·.oneCell') = true) (hf : off + vs.length ≤ xs.length) (hs : (P.info? t).map (·.size) = some vs.length)
    (h : ∀ w1, Own w0 w1 (L.set i (g, RowP e size cap (splice xs off vs))) → K a w1) : if Region.wanted o (yielded ops a.tmps) = true then Oper.wp P o a W K Q else E :=
  ev_step hw (wp_storeRowAgg i ho hN hx HO hi hy h1 hf hs h)
/-- A slice of so many structs that hold nothing. -/
theorem made_list (zs : List Value) (n : Nat) : (madeCells ⟨zs⟩ (n * zs.length)).toList = (List.replicate n zs).flatten := by
  apply List.ext_getElem?
  intro i
  have hsz : (madeCells ⟨zs⟩ (n * zs.length)).size = n * zs.length := by simp [size_madeCells]
  have hfl : ((List.replicate n zs).flatten).length = n * zs.length := by simp
  rcases Nat.lt_or_ge i (n * zs.length) with h | h
  · have hz : 0 < zs.length := by
      rcases Nat.eq_zero_or_pos zs.length with h0 | h0
      · rw [h0] at h; simp at h
      · exact h0
    have key : ∀ (n i : Nat), i < n * zs.length → ((List.replicate n zs).flatten)[i]? = zs[i % zs.length]? := by
      intro n
      induction n with
      | zero => intro i h; simp at h
      | succ n ih =>
        intro i h
        rw [List.replicate_succ, List.flatten_cons]
        rcases Nat.lt_or_ge i zs.length with hi | hi
        · rw [List.getElem?_append_left hi, Nat.mod_eq_of_lt hi]
        · rw [List.getElem?_append_right hi, ih (i - zs.length) (by rw [Nat.succ_mul] at h; omega)]
          rw [Nat.mod_eq_sub_mod hi]
    rw [key n i h]
    have hm : i % zs.length < zs.length := Nat.mod_lt _ hz
    rw [Array.getElem?_toList, Array.getElem?_eq_getElem (by omega), List.getElem?_eq_getElem hm]
    simp only [madeCells, Array.getElem_map, Array.getElem_range, List.size_toArray]
    rw [getElem!_pos (⟨zs⟩ : Array Value) (i % zs.length) hm]
    rfl
  · rw [List.getElem?_eq_none (by rw [Array.length_toList, hsz]; omega), List.getElem?_eq_none (by omega)]
theorem wp_makeN {t e : TypeId} {x y : Operand} {z : Value} {size bytes n : Nat} {zs : List Value} (hE : Elem P t e size bytes z) (ho : o.op = .makeSlice t x y) {k1 k2 : IntKind} (hx : a.eval x = .int k1 (n : Int)) (hy : a.eval y = .int k2 (n : Int)) (hb : bytes * n ≤ 281474976710656) (hm : n ≤ maxLen) (hz1 : z.cells = ⟨zs⟩) (HO : Own w0 W L)
    (h : ∀ g w1, Own w0 w1 ((g, RowP e size n ((List.replicate n zs).flatten)) :: L) → K (a.put o.dst (.slice (some ⟨g, 0, none⟩) n n)) w1) : o.wp P a W K Q := by
  obtain ⟨inf, hi, hz, hsz, hby⟩ := hE.info
  have hml : maxLen = 9223372036854775807 := rfl
  have hb' : (inf.bytes : Int) * (n : Int) ≤ 281474976710656 := by
    rw [hby]
    have h : ((bytes * n : Nat) : Int) ≤ 281474976710656 := by omega
    rwa [Int.natCast_mul] at h
  have hr := run_make (P := P) W t e inf z hE.und hi hz k1 k2 n n (by omega) (Int.le_refl _) hb' (by omega)
  have hzl : zs.length = size := by have := hE.zcells; rw [hz1] at this; simpa using this
  simp only [Int.toNat_natCast, hsz, hz1] at hr
  have HO1 : Own w0 (W.alloc (.cells (madeCells ⟨zs⟩ (n * size)) e)) ((W.heap.size, RowP e size n ((List.replicate n zs).flatten)) :: L) := HO.alloc _ ⟨_, rfl, by
    rw [← hzl, made_list]; exact List.prefix_refl _, by rw [size_madeCells], hm⟩
  refine wp_run ?_ (h _ _ HO1)
  unfold execOp
  simp only [ho, hx, hy, Sem.run_bind, Sem.run_pure, Result.andThen_ok, hr]
theorem li_makeN {t e : TypeId} {x y : Operand} {z : Value} {size bytes n : Nat} {zs : List Value} (hE : Elem P t e size bytes z) (ho : o.op = .makeSlice t x y) (hw : Region.wanted o (yielded ops a.tmps) = true) {k1 k2 : IntKind} (hx : a.eval x = .int k1 (n : Int)) (hy : a.eval y = .int k2 (n : Int)) (hb : bytes * n ≤ 281474976710656) (hm : n ≤ maxLen) (hz1 : z.cells = ⟨zs⟩) (HO : Own w0 W L)
    (h : ∀ g w1, Own w0 w1 ((g, RowP e size n ((List.replicate n zs).flatten)) :: L) → wpList P ops Q rest (a.put o.dst (.slice (some ⟨g, 0, none⟩) n n)) w1) : wpList P ops Q (o :: rest) a W :=
  ev_list hw fun _ hK => wp_makeN hE ho hx hy hb hm hz1 HO fun g w1 h1 => hK _ _ (h g w1 h1)
end
end Go.Proofs.Ytbgjfdeolckljaa

/- A row of bytes turned to a string. Over 'Own'. -/
import Derived.Test.YtkkgajlddlnghaaD
import Derived.Laws.IdiomStrings
namespace Go.Proofs.Ytkkgajlddlnghaa
set_option linter.unusedVariables false
set_option linter.unusedSimpArgs false
set_option linter.unnecessarySimpa false
open Go.RowKit
/-- The string of these bytes. -/
def strB (l : List (BitVec 8)) : ByteArray := ⟨(l.map fun b => UInt8.ofNat b.toNat).toArray⟩
theorem u8_nat (n : Nat) (h : n < 256) : (UInt8.ofNat n).toNat = n := by
  rw [UInt8.toNat_ofNat']; omega
theorem strB_inj {l m : List (BitVec 8)} (h : strB l = strB m) : l = m := by
  unfold strB at h
  injection h with h
  have h2 := congrArg Array.toList h
  simp only at h2
  have key : ∀ (l m : List (BitVec 8)), (l.map fun b => UInt8.ofNat b.toNat) = (m.map fun b => UInt8.ofNat b.toNat) → l = m := by
    intro l
    induction l with
    | nil => intro m h; cases m with | nil => rfl | cons _ _ => simp at h
    | cons a l ih =>
      intro m h
      cases m with
      | nil => simp at h
      | cons b m =>
        simp only [List.map_cons, List.cons.injEq] at h
        have e := congrArg UInt8.toNat h.1
        have ha := a.isLt
        have hb := b.isLt
        rw [u8_nat _ ha, u8_nat _ hb] at e
        rw [BitVec.eq_of_toNat_eq e, ih m h.2]
  exact key l m h2
section
variable {P : Program} {ops : Array Oper} {rest : List Oper} {o : Oper} {a : Act} {Q : Exit → Act → World → Prop} {K : Act → World → Prop} {E : Prop} {w0 W : World} {L : List Ent}
theorem run_bytesStr {src dst e : TypeId} {ad : Addr} {n cap : Nat} (l : List (BitVec 8)) (hs : P.underlying src = some (.slice e)) (he : P.underlying e = some (.int .u8)) (hd : P.underlying dst = some .string) (hl : l.length = n)
    (hc : ∀ (j : Nat) (b : BitVec 8), l[j]? = some b → W.cell? (ad.add j) = some (.int .u8 (b.toNat : Int))) : (convert src dst (.slice (some ad) n cap)).run P W = .ok (.string (strB l)) W := by
  have h := run_convert_bytes_back (P := P) W src dst e ad cap (l.map fun b => UInt8.ofNat b.toNat) hs he hd (fun j hj => by
    have hj' : j < l.length := by simpa using hj
    rw [hc j l[j] (List.getElem?_eq_getElem hj')]
    have hb := (l[j]).isLt
    simp only [List.getElem_map]
    rw [u8_nat _ hb])
  rw [List.length_map, hl] at h
  exact h
theorem wp_bytesStr (i : Nat) (src dst e : TypeId) {x : Operand} {g n cap cp : Nat} (l : List (BitVec 8)) (ho : o.op = .convert src dst x) (hx : a.eval x = .slice (some ⟨g, 0, none⟩) n cap) (HO : Own w0 W L) (hi : L[i]? = some (g, RowP e 1 cp (l.map fun b => .int .u8 (b.toNat : Int)))) (hl : l.length = n) (hs : P.underlying src = some (.slice e)) (he : P.underlying e = some (.int .u8)) (hd : P.underlying dst = some .string)
    (h : K (a.put o.dst (.string (strB l))) W) : o.wp P a W K Q := by
  refine wp_run ?_ h
  have hr := run_bytesStr (P := P) (W := W) (cap := cap) (ad := ⟨g, 0, none⟩) l hs he hd hl (fun j b hb => by
    have := HO.rowCell i hi j (v := .int .u8 (b.toNat : Int)) (by simp [hb])
    unfold Addr.add
    split
    · subst_vars; exact this
    · simpa using this)
  unfold execOp
  simp only [ho, hx, hr, Sem.run_bind, Result.andThen_ok, Sem.run_pure]
theorem li_bytesStr (i : Nat) (src dst e : TypeId) {x : Operand} {g n cap cp : Nat} (l : List (BitVec 8)) (ho : o.op = .convert src dst x) (hw : Region.wanted o (yielded ops a.tmps) = true) (hx : a.eval x = .slice (some ⟨g, 0, none⟩) n cap) (HO : Own w0 W L) (hi : L[i]? = some (g, RowP e 1 cp (l.map fun b => .int .u8 (b.toNat : Int)))) (hl : l.length = n) (hs : P.underlying src = some (.slice e)) (he : P.underlying e = some (.int .u8)) (hd : P.underlying dst = some .string)
    (h : wpList P ops Q rest (a.put o.dst (.string (strB l))) W) : wpList P ops Q (o :: rest) a W :=
  ev_list hw fun _ hK => wp_bytesStr i src dst e l ho hx HO hi hl hs he hd (hK _ _ h)
theorem st_bytesStr (i : Nat) (src dst e : TypeId) {x : Operand} {g n cap cp : Nat} (l : List (BitVec 8)) (ho : o.op = .convert src dst x) (hw : Region.wanted o (yielded ops a.tmps) = true) (hx : a.eval x = .slice (some ⟨g, 0, none⟩) n cap) (HO : Own w0 W L) (hi : L[i]? = some (g, RowP e 1 cp (l.map fun b => .int .u8 (b.toNat : Int)))) (hl : l.length = n) (hs : P.underlying src = some (.slice e)) (he : P.underlying e = some (.int .u8)) (hd : P.underlying dst = some .string)
    (h : K (a.put o.dst (.string (strB l))) W) : if Region.wanted o (yielded ops a.tmps) = true then Oper.wp P o a W K Q else E :=
  ev_step hw (wp_bytesStr i src dst e l ho hx HO hi hl hs he hd h)
end
end Go.Proofs.Ytkkgajlddlnghaa

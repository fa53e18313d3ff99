/- A bit of a sector turned. -/
import Derived.Test.YtbgjfdeolckljaaDm
namespace Go.Proofs.Ytbgjfdeolckljaa
set_option linter.unusedVariables false
set_option linter.unusedSimpArgs false
set_option linter.unnecessarySimpa false
open Go.RowKit Go.Proofs.YtbgjfdeolckljaaW.PrintLast
section
variable {P : Program} {ops : Array Oper} {rest : List Oper} {o : Oper} {a : Act} {Q : Exit → Act → World → Prop} {w0 W : World} {L : List Ent}
theorem li_storeRowBool (i : Nat) {t : TypeId} {x y : Operand} (ho : o.op = .store t x y) (hw : Region.wanted o (yielded ops a.tmps) = true) (hN : o.dst = none) {g off : Nat} (hx : a.eval x = .pointer (some ⟨g, off, none⟩)) (HO : Own w0 W L) {e : TypeId} {size cap : Nat} {xs : List Value} (hi : L[i]? = some (g, RowP e size cap xs))
    {b : Bool} (hy : a.eval y = .bool b) (hf : off < xs.length) (hs : (P.info? t).map (·.size) = some 1)
    (h : ∀ w1, Own w0 w1 (L.set i (g, RowP e size cap (xs.set off (.bool b)))) → wpList P ops Q rest a w1) : wpList P ops Q (o :: rest) a W :=
  ev_list hw fun _ hK => wp_storeRow i ho hN hx HO hi hy rfl rfl hf hs fun w1 h1 => hK _ _ (h w1 h1)
end
theorem flat_set1 {α : Type} {f : α → List Value} {k : Nat} (hf : ∀ x, (f x).length = k) : ∀ (l : List α) (i j : Nat) (x y : α) (v : Value), l[i]? = some x → j < k → f y = (f x).set j v → (l.flatMap f).set (i * k + j) v = (l.set i y).flatMap f
  | [], i, j, x, y, v, h, _, _ => by simp at h
  | z :: l, 0, j, x, y, v, h, hj, e => by
    simp at h
    subst h
    rw [List.flatMap_cons, List.set_cons_zero, List.flatMap_cons, e, Nat.zero_mul, Nat.zero_add, List.set_append_left _ _ (by rw [hf]; exact hj)]
  | z :: l, i + 1, j, x, y, v, h, hj, e => by
    rw [List.flatMap_cons, List.set_cons_succ, List.flatMap_cons, List.set_append_right _ _ (by rw [hf, Nat.succ_mul]; omega), hf]
    rw [show (i + 1) * k + j - k = i * k + j by rw [Nat.succ_mul]; omega]
    rw [flat_set1 hf l i j x y v (by simpa using h) hj e]
theorem mem_erase {l : List Ent} {j : Nat} {x y : Ent} (hj : l[j]? = some y) (hx : x ∈ l) (hne : x.1 ≠ y.1) : x ∈ l.eraseIdx j := by
  have := (perm_front l j y hj).mem_iff.1 hx
  rcases List.mem_cons.1 this with h | h
  · rw [h] at hne; exact absurd rfl hne
  · exact h
namespace Dk
def flipB (bs : List Byte) (bit : Nat) : List Byte := bs.set (bit / 8) (bs.getD (bit / 8) 0#8 ^^^ (1#8 <<< (bit % 8)))
theorem flipB_len (bs : List Byte) (bit : Nat) : (flipB bs bit).length = bs.length := by simp [flipB]
theorem flipB_val (l : List Byte) (k : Nat) (hk : k / 8 < l.length) : ∃ x y z : Int, (bys l)[k / 8]? = some (.int .u8 x) ∧ 0 ≤ x ∧ x < 256 ∧ (2 : Int) ^ (k % 8) % 256 = y ∧ bits .xor .u8 x y = z ∧ 0 ≤ z ∧ z < 256 ∧ (bys l).set (k / 8) (.int .u8 z) = bys (flipB l k) := by
  obtain ⟨b, hb⟩ : ∃ b, l[k / 8]? = some b := ⟨_, List.getElem?_eq_getElem hk⟩
  have hbl := b.isLt
  have hp : (2 : Nat) ^ (k % 8) < 256 := by
    have : (2 : Nat) ^ (k % 8) < 2 ^ 8 := Nat.pow_lt_pow_right (by omega) (by omega)
    exact this
  have hy : (2 : Int) ^ (k % 8) % 256 = ((2 ^ (k % 8) : Nat) : Int) := by
    have h3 : (2 : Int) ^ (k % 8) = ((2 ^ (k % 8) : Nat) : Int) := (Int.natCast_pow 2 _).symm
    rw [h3]
    obtain ⟨Y, hY⟩ : ∃ Y, (2 : Nat) ^ (k % 8) = Y := ⟨_, rfl⟩
    rw [hY] at hp ⊢
    omega
  have hz : bits .xor .u8 (b.toNat : Int) ((2 ^ (k % 8) : Nat) : Int) = (((b ^^^ (1#8 <<< (k % 8))).toNat : Nat) : Int) := by
    rw [u8_xor_nat _ _ hbl hp, BitVec.toNat_xor, BitVec.toNat_shiftLeft]
    congr 2
    rw [Nat.shiftLeft_eq]
    simp
    omega
  have hzl := (b ^^^ (1#8 <<< (k % 8))).isLt
  refine ⟨_, _, _, by simp [bys, hb], by omega, by omega, hy, hz, by omega, by omega, ?_⟩
  unfold flipB bys
  rw [List.map_set]
  have hg : l.getD (k / 8) 0#8 = b := by rw [List.getD_eq_getElem?_getD, hb]; rfl
  rw [hg]
/-- A disk whose sector has a bit turned. -/
def rotted (D : Disk) (n gs cs bit : Nat) (bs : List Byte) : Disk := putS D n ⟨some (gs, cs, flipB bs bit), true, false⟩
theorem putS_lens {D : Disk} {n : Nat} {s : Sec} : (putS D n s).lasts.length = D.lasts.length ∧ (putS D n s).waits.length = D.waits.length ∧ (putS D n s).size = D.size ∧ (putS D n s).off = D.off := by
  unfold putS
  cases lastW D.waits n <;> simp
end Dk
/-- What is owned once a sector's block has turned. -/
theorem Own.rotted {w0 w : World} {L A A' : List Ent} {D : Dk.Disk} {n gs cs j : Nat} {bs bs' : List Dk.Byte} {t t' : Bool} {w2 : World} (hn : n < D.lasts.length) (hb : (Dk.toldS D n).blk = some (gs, cs, bs)) (h : Own w0 w (A ++ (Dk.pool D ++ L)))
    (hj : (Dk.pool D ++ L)[j]? = some (gs, RowP 5 1 cs (Dk.bys bs))) (hA : A'.map (·.1) = A.map (·.1)) (h2 : Own w0 w2 ((gs, RowP 5 1 cs (Dk.bys bs')) :: (A' ++ (Dk.pool D ++ L).eraseIdx j))) :
    Own w0 w2 (A' ++ (Dk.pool (Dk.putS D n ⟨some (gs, cs, bs'), t, t'⟩) ++ L)) := by
  have hnd := h.nodup
  rw [List.map_append, List.map_append] at hnd
  have hids := Dk.putS_ids (bs' := bs') (t := t) (t' := t') hn hb
  have hp : ((Dk.pool D).map (·.1)).Nodup := ((List.nodup_append.1 ((List.nodup_append.1 hnd).2.1))).1
  have hmem := Dk.putS_mem (bs' := bs') (t := t) (t' := t') hn hb hp
  have hgs : gs ∈ (Dk.pool D).map (·.1) := List.mem_map.2 ⟨_, Dk.ents_mem hn hb, rfl⟩
  refine h2.pick ?_ ?_
  · rw [List.map_append, List.map_append, hids, hA]
    exact hnd
  · intro x hx
    rcases List.mem_append.1 hx with hx | hx
    · exact List.mem_cons_of_mem _ (List.mem_append_left _ hx)
    · rcases List.mem_append.1 hx with hx | hx
      · rcases hmem x hx with rfl | ⟨hx, hne⟩
        · exact List.mem_cons_self
        · exact List.mem_cons_of_mem _ (List.mem_append_right _ (mem_erase hj (List.mem_append_left _ hx) hne))
      · refine List.mem_cons_of_mem _ (List.mem_append_right _ (mem_erase hj (List.mem_append_right _ hx) fun e => ?_))
        exact (List.nodup_append.1 ((List.nodup_append.1 hnd).2.1)).2.2 gs hgs x.1 (List.mem_map.2 ⟨x, hx, rfl⟩) e.symm
end Go.Proofs.Ytbgjfdeolckljaa

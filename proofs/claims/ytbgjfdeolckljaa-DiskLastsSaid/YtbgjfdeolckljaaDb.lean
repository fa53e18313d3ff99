/- A disk's small functions; a slice copied; bytes all alike. -/
import Derived.Test.YtbgjfdeolckljaaDa
namespace Go.Proofs.Ytbgjfdeolckljaa
set_option linter.unusedVariables false
set_option linter.unusedSimpArgs false
set_option linter.unnecessarySimpa false
open Go.RowKit Go.Proofs.YtbgjfdeolckljaaW.PrintLast
theorem eql_slice_nil {P : Program} (w : World) (t e : TypeId) (a : Option Addr) (n c : Nat) (h : P.underlying t = some (.slice e)) :
    (binOp .eql t (.slice a n c) (.slice none 0 0)).run P w = .ok (.bool a.isNone) w := by
  simp only [binOp]
  simp [Op.equal, Op.maxDepth, Lib.run_equalIn_slice_nil w 9999 t e a n c 0 0 h]
/-- A slice that reads as these bytes. -/
def Bs (w : World) (v : Value) (l : List (BitVec 8)) : Prop :=
  ∃ (ao : Option Addr) (cap : Nat), v = .slice ao l.length cap ∧ l.length ≤ cap ∧ cap ≤ maxLen ∧ ∀ (i : Nat) (b : BitVec 8), l[i]? = some b → ∃ a, ao = some a ∧ w.cell? (a.add i) = some (.int .u8 (b.toNat : Int))
theorem add_at (g j : Nat) : (⟨g, 0, none⟩ : Addr).add j = ⟨g, j, none⟩ := by
  unfold Addr.add
  split
  · subst_vars; rfl
  · simp
theorem Bs_rowM {w0 w : World} {L : List Ent} {g cap n : Nat} {l : List (BitVec 8)} (HO : Own w0 w L) (hm : (g, RowP 5 1 cap (Dk.bys l)) ∈ L) (hl : l.length = n) : Bs w (.slice (some ⟨g, 0, none⟩) n cap) l := by
  obtain ⟨i, hi⟩ := List.getElem?_of_mem hm
  obtain ⟨o, ho, cur, rfl, hp, hc, hm⟩ := HO.at_i i hi
  have h1 := hp.length_le
  simp [Dk.bys] at h1
  refine ⟨_, _, by rw [hl], by omega, hm, fun j b hb => ⟨_, rfl, ?_⟩⟩
  have := HO.rowCell i hi j (v := .int .u8 (b.toNat : Int)) (by simp [Dk.bys, hb])
  rw [add_at]; exact this
theorem Bs_below {w w1 : World} {v : Value} {l : List (BitVec 8)} (h : Bs w v l) (hb : Below w.heap.size w w1) : Bs w1 v l := by
  obtain ⟨ao, cap, rfl, h1, h2, h3⟩ := h
  refine ⟨ao, cap, rfl, h1, h2, fun i b hi => ?_⟩
  obtain ⟨a, rfl, hc⟩ := h3 i b hi
  exact ⟨a, rfl, by rw [hb.cell (World.block_lt_of_cell? w _ hc)]; exact hc⟩
theorem Own.bs {w w1 : World} {L : List Ent} {v : Value} {l : List (BitVec 8)} (HO : Own w w1 L) (h : Bs w v l) : Bs w1 v l := Bs_below h HO.below
theorem bys_one (l : List (BitVec 8)) : ∀ u ∈ Dk.bys l, u.oneCell' = true := by
  intro u hu
  obtain ⟨b, _, rfl⟩ := List.mem_map.1 hu
  rfl
theorem bs_news {w : World} {ao : Option Addr} {n cap : Nat} {l : List (BitVec 8)} (h : Bs w (.slice ao n cap) l) : (Dk.bys l).length = n * 1 ∧ ∀ j u, (Dk.bys l)[j]? = some u → ∃ ad, ao = some ad ∧ w.cell? (ad.add j) = some u := by
  obtain ⟨ao', cap', he, h1, h2, h3⟩ := h
  injection he with e1 e2 e3
  subst e1 e2 e3
  refine ⟨by simp [Dk.bys], fun j u hj => ?_⟩
  simp only [Dk.bys, List.getElem?_map] at hj
  cases hb : l[j]? with
  | none => rw [hb] at hj; cases hj
  | some b =>
    rw [hb] at hj
    simp at hj
    subst hj
    exact h3 j b hb
set_option maxRecDepth 20000 in
set_option maxHeartbeats 4000000 in
theorem Clone_some {w0 w : World} {L : List Ent} {a : Addr} {n cap : Nat} {l : List (BitVec 8)} (HO : Own w0 w L) (h : Bs w (.slice (some a) n cap) l) (hn : n ≤ 1000000) :
    Calls Try.prog 24 #[.slice (some a) n cap] w fun e w' => ∃ g c, e = .returned (.slice (some ⟨g, 0, none⟩) n c) ∧ Own w0 w' ((g, RowP 5 1 c (Dk.bys l)) :: L) := by
  have HB := Lib.hid h
  have hmx : maxLen = 9223372036854775807 := rfl
  have hm1 := Lib.hid (show 0 + n ≤ maxLen by omega)
  have HW := Own.nil w
  have HO0 := Lib.hid HO
  clear h hmx HO
  have HO := HW
  clear HW
  have hq : ∀ (w : World) (a : Option Addr) (n c : Nat), (binOp .eql 35 (.slice a n c) (.slice none 0 0)).run Try.prog w = .ok (.bool a.isNone) w := fun w a n c => eql_slice_nil w 35 5 a n c Try.underlying35
  go_enter Try.func24, Try.ntmps24
  go_wp2_with (first | (refine li_bslice 35 1 rfl rfl (by go_simp; rfl) rfl (by decide) HO ?_; clear HO; intro gn w1 HO) | (refine li_append_any 0 el35 rfl rfl (n := 0) rfl HO rfl rfl rfl (bs_news (HO.bs HB.out)).1 (bs_news (HO.bs HB.out)).2 (bys_one l) hm1.out (by omega) ?_; clear HO; intro gq cq wq hcq HO; simp only [List.nil_append, List.eraseIdx_cons_zero] at HO))
  go_ret
  exact ⟨gq, cq, rfl, HO0.out.more HO⟩
set_option maxRecDepth 20000 in
theorem Clone_nil {w : World} : Calls Try.prog 24 #[.slice none 0 0] w fun e w' => e = .returned (.slice none 0 0) ∧ w = w' := by
  have hq : ∀ (w : World) (a : Option Addr) (n c : Nat), (binOp .eql 35 (.slice a n c) (.slice none 0 0)).run Try.prog w = .ok (.bool a.isNone) w := fun w a n c => eql_slice_nil w 35 5 a n c Try.underlying35
  go_enter Try.func24, Try.ntmps24
  go_wp2_with (fail)
  go_ret
  exact ⟨rfl, rfl⟩
/-- A disk opened: its head, its row, and the rest. -/
theorem Dk.open_ {w0 w : World} {L E : List Ent} {g : Nat} {D : Dk.Disk} (hD : Dk.DkP g D E) (HO : Own w0 w (E ++ L)) : ∃ gl cl wv W, Dk.WP wv D.waits W ∧ E = Dk.hd g gl cl wv D ++ (W ++ Dk.pool D) ∧ Own w0 w ((g, CellsP 62 [.int .i64 (D.size : Int), .slice (some ⟨gl, 0, none⟩) D.lasts.length cl, wv, .bool D.off]) :: (gl, RowP 65 3 cl (D.lasts.flatMap Dk.Sec.cells)) :: (W ++ Dk.pool D ++ L)) := by
  obtain ⟨gl, cl, wv, W, hW, rfl⟩ := hD
  exact ⟨gl, cl, wv, W, hW, rfl, by simpa [Dk.hd] using HO⟩
theorem Dk.WP.len {wv : Value} {l : List (Nat × Dk.Sec)} {W : List Ent} (h : Dk.WP wv l W) : ∃ ao c, wv = .slice ao l.length c := by
  cases h with
  | nil h => exact ⟨none, 0, h⟩
  | row _ g c h _ => exact ⟨_, _, h⟩
def Dk.mayE (D : Dk.Disk) (n : Int) : Int := if n < 0 ∨ (D.lasts.length : Int) ≤ n then 1 else if D.off then 10 else 0
set_option maxRecDepth 20000 in
theorem may_any {w0 w : World} {L E : List Ent} {g : Nat} {D : Dk.Disk} (n : Int) (hD : Dk.DkP g D E) (HO : Own w0 w (E ++ L)) :
    Calls Try.prog 23 #[.pointer (some ⟨g, 0, none⟩), .int .i64 n] w fun e w' => e = .returned (.int .i64 (Dk.mayE D n)) ∧ w = w' := by
  obtain ⟨gl, cl, wv, W, hW, rfl, HO1⟩ := Dk.open_ hD HO
  clear HO hD
  unfold Dk.mayE
  obtain ⟨N, hN⟩ : ∃ N, D.lasts.length = N := ⟨_, rfl⟩
  rw [hN] at HO1 ⊢
  have HO := HO1
  clear HO1 hN
  by_cases h1 : n < 0
  · have d1 : decide (n < 0) = true := decide_eq_true h1
    have H := Lib.hid (show (if n < 0 ∨ (N : Int) ≤ n then (1 : Int) else if D.off then 10 else 0) = 1 by rw [if_pos (.inl h1)])
    rw [H.out]
    go_enter Try.func23, Try.ntmps23
    go_wp2_with (refine li_load 0 59 rfl rfl rfl HO rfl rfl (by kernel_rfl) ?_)
    go_ret
    exact ⟨rfl, rfl⟩
  have d1 : decide (n < 0) = false := decide_eq_false h1
  by_cases h2 : (N : Int) ≤ n
  · have d2 : decide ((N : Int) ≤ n) = true := decide_eq_true h2
    rw [show (if n < 0 ∨ (N : Int) ≤ n then (1 : Int) else if D.off then 10 else 0) = 1 by rw [if_pos (.inr h2)]]
    go_enter Try.func23, Try.ntmps23
    go_wp2_with (refine li_load 0 59 rfl rfl rfl HO rfl rfl (by kernel_rfl) ?_)
    go_ret
    exact ⟨rfl, rfl⟩
  have d2 : decide ((N : Int) ≤ n) = false := decide_eq_false h2
  rw [if_neg (by omega)]
  obtain ⟨of, hof⟩ : ∃ b, D.off = b := ⟨_, rfl⟩
  rw [hof] at HO ⊢
  cases of with
  | true =>
    go_enter Try.func23, Try.ntmps23
    go_wp2_with (first | (refine li_load 0 59 rfl rfl rfl HO rfl rfl (by kernel_rfl) ?_) | (refine li_load 0 4 rfl rfl rfl HO rfl rfl (by kernel_rfl) ?_))
    go_ret
    exact ⟨rfl, rfl⟩
  | false =>
    go_enter Try.func23, Try.ntmps23
    go_wp2_with (first | (refine li_load 0 59 rfl rfl rfl HO rfl rfl (by kernel_rfl) ?_) | (refine li_load 0 4 rfl rfl rfl HO rfl rfl (by kernel_rfl) ?_))
    go_ret
    exact ⟨rfl, rfl⟩
theorem may_nil (n : Int) (w : World) : Calls Try.prog 23 #[.pointer none, .int .i64 n] w fun e w' => e = .returned (.int .i64 6) ∧ w = w' := by
  go_enter Try.func23, Try.ntmps23
  go_wp2
  go_ret
  exact ⟨rfl, rfl⟩
set_option maxRecDepth 20000 in
theorem Waits_any {w0 w : World} {L E : List Ent} {g : Nat} {D : Dk.Disk} (hD : Dk.DkP g D E) (HO : Own w0 w (E ++ L)) :
    Calls Try.prog 16 #[.pointer (some ⟨g, 0, none⟩)] w fun e w' => e = .returned (.int .i64 (D.waits.length : Int)) ∧ w = w' := by
  obtain ⟨gl, cl, wv, W, hW, rfl, HO1⟩ := Dk.open_ hD HO
  obtain ⟨ao, c, rfl⟩ := hW.len
  have HO := HO1
  clear HO1 hD hW
  go_enter Try.func16, Try.ntmps16
  go_wp2_with (refine li_load 0 60 rfl rfl rfl HO rfl rfl (by kernel_rfl) ?_)
  go_ret
  exact ⟨rfl, rfl⟩
set_option maxRecDepth 20000 in
theorem Size_any {w0 w : World} {L E : List Ent} {g : Nat} {D : Dk.Disk} (hD : Dk.DkP g D E) (HO : Own w0 w (E ++ L)) :
    Calls Try.prog 18 #[.pointer (some ⟨g, 0, none⟩)] w fun e w' => e = .returned (.tuple #[.int .i64 (D.lasts.length : Int), .int .i64 (D.size : Int)]) ∧ ∃ n, w' = w.drewN n := by
  obtain ⟨gl, cl, wv, W, hW, rfl, HO1⟩ := Dk.open_ hD HO
  have HO := HO1
  clear HO1 hD hW
  have c1 : w.cell? ⟨g, 1, none⟩ = some (.slice (some ⟨gl, 0, none⟩) D.lasts.length cl) := HO.cell 0 rfl 1 rfl
  have c0 : w.cell? ⟨g, 0, none⟩ = some (.int .i64 (D.size : Int)) := HO.cell 0 rfl 0 rfl
  go_enter Try.func18, Try.ntmps18
  go_upto_region 3 with (fail)
  go_quiet (fail)
  go_wp2_with (fail)
  go_ret2
  exact ⟨rfl, _, rfl⟩
set_option maxRecDepth 20000 in
theorem On_any {w0 w : World} {L E : List Ent} {g : Nat} {D : Dk.Disk} (hD : Dk.DkP g D E) (HO : Own w0 w (E ++ L)) :
    Calls Try.prog 15 #[.pointer (some ⟨g, 0, none⟩)] w fun e w' => e = .returned (.tuple #[]) ∧ ∃ E', Dk.DkP g { D with off := false } E' ∧ Own w0 w' (E' ++ L) := by
  obtain ⟨gl, cl, wv, W, hW, rfl, HO1⟩ := Dk.open_ hD HO
  have HO := HO1
  clear HO1 hD
  go_enter Try.func15, Try.ntmps15
  go_wp2_with (refine li_storeBool 0 4 rfl rfl rfl rfl HO rfl rfl (by simp) (by kernel_rfl) ?_; clear HO; intro ws HO; simp only [List.set_cons_zero, List.set_cons_succ] at HO)
  go_end0
  exact ⟨rfl, _, ⟨gl, cl, wv, W, hW, rfl⟩, by simpa [Dk.hd, Dk.pool] using HO⟩
end Go.Proofs.Ytbgjfdeolckljaa

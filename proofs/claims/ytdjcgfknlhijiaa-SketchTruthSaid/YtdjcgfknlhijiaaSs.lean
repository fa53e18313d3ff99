/- The reference's lists and the code's rows go on saying the same. Plain. -/
import Derived.Test.YtdjcgfknlhijiaaSq
import Derived.Test.YtdjcgfknlhijiaaSm
namespace Go.Proofs.Ytdjcgfknlhijiaa
set_option linter.unusedVariables false
set_option linter.unusedSimpArgs false
set_option linter.unnecessarySimpa false
namespace Rs
/-- How many of the first rows' cells this one is. -/
noncomputable def hits (key wd m : Int) : Nat → Int
  | 0 => 0
  | k + 1 => hits key wd m k + (if m = num key k wd then 1 else 0)
theorem add_look (key wd : Int) {cs ns : List Int} (h : cs.length = ns.length) (m : Int) : ∀ k, look m (addC key wd k cs) (addN key wd k cs ns) = look m cs ns + hits key wd m k
  | 0 => by simp [addC, addN, hits]
  | k + 1 => by
    simp only [addC, addN, hits]
    rw [look_inc (addCN_len key wd h k) m, add_look key wd h m k]
    omega
theorem hits_cell (key : Int) (wd : Nat) (w1 : 1 ≤ wd) (w2 : wd ≤ 65536) (j c : Nat) (hc : c < wd) : ∀ k, hits key wd ((j : Int) * 65536 + c) k = if j < k ∧ Sk.ixn key j wd = c then 1 else 0
  | 0 => by simp [hits]
  | k + 1 => by
    have hI := Sk.ixn_lt key k wd w1
    simp only [hits]
    rw [hits_cell key wd w1 w2 j c hc k]
    unfold num
    by_cases e : j = k
    · subst e
      by_cases e2 : Sk.ixn key j wd = c
      · subst e2; simp
      · have : ¬ ((j : Int) * 65536 + (c : Int) = (j : Int) * 65536 + (Sk.ixn key j wd : Int)) := by omega
        simp [this, e2]
    · have : ¬ ((j : Int) * 65536 + (c : Int) = (k : Int) * 65536 + (Sk.ixn key k wd : Int)) := by omega
      have h2 : (j < k + 1) = (j < k) := by
        apply propext; omega
      simp [this, h2]
theorem getD_map_half (l : List Int) (c : Nat) : (l.map (· / 2)).getD c 0 = l.getD c 0 / 2 := by
  simp only [List.getD_eq_getElem?_getD, List.getElem?_map]
  cases l[c]? <;> simp
theorem same_add {key : Int} {wd : Nat} {R : List Row} {cs ns : List Int} (hS : Sk.Shape wd R) (hl : cs.length = ns.length) (h : Same wd (Sk.tab R) cs ns) : Same wd (Sk.tab (Sk.bumped key R.length R)) (addC key wd R.length cs) (addN key wd R.length cs ns) := by
  intro j l hj c hc
  have w1 := hS.w1
  have w2 := hS.w2
  rw [Sk.tab_bumped] at hj
  simp only [Sk.tadd, Sk.tab, List.getElem?_mapIdx, List.getElem?_map] at hj
  cases hp : R[j]? with
  | none => rw [hp] at hj; cases hj
  | some p =>
    rw [hp] at hj
    simp only [Option.map_some, Option.some.injEq] at hj
    have hjl := (List.getElem?_eq_some_iff.1 hp).1
    have hwl : p.2.length = wd := hS.all p (List.mem_of_getElem? hp)
    have h0 := h j p.2 (by simp [Sk.tab, hp]) c hc
    rw [add_look key wd hl, h0, hits_cell key wd w1 w2 j c hc, ← hj]
    unfold Sk.tbump
    rw [hwl]
    have hI := Sk.ixn_lt key j wd w1
    by_cases e : Sk.ixn key j wd = c
    · subst e
      rw [if_pos ⟨hjl, rfl⟩]
      rw [List.getD_eq_getElem?_getD, List.getD_eq_getElem?_getD, List.getElem?_set_self (by omega)]
      rfl
    · rw [if_neg (by simp [e]), Sk.getD_set_ne _ e]
      omega
theorem same_half {wd : Nat} {R : List Row} {cs ns : List Int} (h : Same wd (Sk.tab R) cs ns) : Same wd (Sk.tab (Sk.halve R)) cs (ns.map (· / 2)) := by
  intro j l hj c hc
  simp only [Sk.tab, Sk.halve, List.getElem?_map, Option.map_map] at hj
  cases hp : R[j]? with
  | none => rw [hp] at hj; cases hj
  | some p =>
    rw [hp] at hj
    simp at hj
    have h0 := h j p.2 (by simp [Sk.tab, hp]) c hc
    rw [look_halve, h0, ← hj, getD_map_half]
theorem same_added {key af ad : Int} {wd : Nat} {R : List Row} {cs ns : List Int} (hS : Sk.Shape wd R) (hl : cs.length = ns.length) (h : Same wd (Sk.tab R) cs ns) : Same wd (Sk.tab (Sk.added af ad key R)) (addC key wd R.length cs) (if ad + 1 < af then addN key wd R.length cs ns else (addN key wd R.length cs ns).map (· / 2)) := by
  unfold Sk.added
  by_cases e : ad + 1 < af
  · rw [if_pos e, if_pos e]; exact same_add hS hl h
  · rw [if_neg e, if_neg e]; exact same_half (same_add hS hl h)
theorem half_bd {B : Int} {ns : List Int} (h : ∀ v ∈ ns, 0 ≤ v ∧ v ≤ B) : ∀ v ∈ ns.map (· / 2), 0 ≤ v ∧ v ≤ B := by
  intro v hv
  obtain ⟨u, hu, rfl⟩ := List.mem_map.1 hv
  have := h u hu
  omega
theorem same_val {wd : Nat} {R : List Row} {cs ns : List Int} (hS : Sk.Shape wd R) (h : Same wd (Sk.tab R) cs ns) {B : Int} (hB : Sk.Bd B R) (key : Int) : ∀ (j : Nat) (p : Row), R[j]? = some p → look (num key j wd) cs ns = Sk.val key j p ∧ 0 ≤ Sk.val key j p := by
  intro j p hp
  have hwl : p.2.length = wd := hS.all p (List.mem_of_getElem? hp)
  have hI := Sk.ixn_lt key j wd hS.w1
  have h0 := h j p.2 (by simp [Sk.tab, hp]) (Sk.ixn key j wd) hI
  refine ⟨?_, ?_⟩
  · unfold num Sk.val
    rw [h0, hwl]
  · unfold Sk.val
    rw [hwl, List.getD_eq_getElem?_getD, List.getElem?_eq_getElem (by omega)]
    exact (hB p (List.mem_of_getElem? hp) _ (List.getElem_mem _)).1
theorem same_zero {wd : Nat} {R : List Row} (hz : Sk.Zero wd R) : Same wd (Sk.tab R) [] [] := by
  intro j l hj c hc
  simp only [Sk.tab, List.getElem?_map] at hj
  cases hp : R[j]? with
  | none => rw [hp] at hj; cases hj
  | some p =>
    rw [hp] at hj
    simp at hj
    have hzp := hz p (List.mem_of_getElem? hp)
    rw [← hj, hzp]
    show (0 : Int) = _
    simp [Sk.zeros, List.getD_eq_getElem?_getD, List.getElem?_replicate, hc]
theorem adds_in {af ad : Int} (h0 : 0 ≤ ad) (h1 : ad < af) : 0 ≤ Sk.adds af ad ∧ Sk.adds af ad < af := by
  unfold Sk.adds
  split <;> omega
end Rs
open Go.RowKit in
/-- A call as the law is handed it. -/
def opRow (q : {k : Int // 0 ≤ k ∧ k ≤ 255} × {k : Int // 0 ≤ k ∧ k < 18446744073709551616}) : List Value := [.int .u8 q.1.1, .int .u64 q.2.1]
open Go.RowKit in
theorem op_open {H : Type} {enc : TypeId × Value → H} {P : Program} {w : World} {base : Nat} {spare : Nat → Bool} {held : Bool} {e : TypeId} {f0 f1 : Field} (he : P.underlying e = some (.struct #[f0, f1])) (o0 : f0.offset = 0) (o1 : f1.offset = 1) (u0 : P.underlying f0.type = some (.int .u8)) (u1 : P.underlying f1.type = some (.int .u64))
    (c0 : P.cellsOf f0.type = 1) (c1 : P.cellsOf f1.type = 1) : ∀ n cs y, cs.length = 2 → DataW.trod enc P w base spare held n e cs = some y → ∃ q, cs = opRow q := by
  intro n cs y hl h
  obtain ⟨xs, k, hk, hxy, _, hxl, hf⟩ := DataW.trod_struct he h
  match xs, hxl, cs, hl with
  | [y0, y1], _, [v0, v1], _ =>
    have g0 := hf 0 f0 rfl
    have g1 := hf 1 f1 rfl
    simp [o0, o1, c0, c1] at g0 g1
    obtain ⟨a0, e0, _, b0⟩ := DataW.trod_int u0 g0
    obtain ⟨a1, e1, _, b1⟩ := DataW.trod_int u1 g1
    simp at e0 e1
    exact ⟨(⟨a0, (bounds_u8 b0).1, (bounds_u8 b0).2⟩, ⟨a1, (bounds_u64 b1).1, by have := (bounds_u64 b1).2; omega⟩), by rw [e0, e1]; rfl⟩
end Go.Proofs.Ytdjcgfknlhijiaa

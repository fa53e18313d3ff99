/- The document's list: its rows as they read; find, sum, without. -/
import Derived.Test.YtkkgajlddlnghaaLk
namespace Go.Proofs.Ytkkgajlddlnghaa
set_option linter.unusedVariables false
set_option linter.unusedSimpArgs false
set_option linter.unnecessarySimpa false
open Go.RowKit Go.Proofs.YtkkgajlddlnghaaW.PrintLast Lr
theorem el30 : Elem Try.prog 30 50 2 16 (.agg #[.int .i64 0, .int .i64 0]) := elem_mk (by kernel_rfl) (by kernel_rfl) rfl (by decide)
namespace Lr
def c2 (x : KV) : List Value := [.int .i64 x.1, .int .i64 x.2]
theorem flat2_len : ∀ l : List KV, (l.flatMap c2).length = l.length * 2
  | [] => rfl
  | x :: l => by rw [List.flatMap_cons, List.length_append, flat2_len l]; simp [c2]; omega
theorem flat2_get : ∀ (l : List KV) (i : Nat) (x : KV) (j : Nat), l[i]? = some x → j < 2 → (l.flatMap c2)[i * 2 + j]? = (c2 x)[j]?
  | [], i, x, j, h, _ => by simp at h
  | y :: l, 0, x, j, h, hj => by
    simp at h
    subst h
    rw [List.flatMap_cons, Nat.zero_mul, Nat.zero_add, List.getElem?_append_left (by simpa [c2] using hj)]
  | y :: l, i + 1, x, j, h, hj => by
    rw [List.flatMap_cons, List.getElem?_append_right (by simp [c2]; omega)]
    rw [show (i + 1) * 2 + j - (c2 y).length = i * 2 + j by simp [c2]; omega]
    exact flat2_get l i x j (by simpa using h) hj
/-- A slice that reads as these pairs, laid from its block's beginning. -/
def Rd (w : World) (v : Value) (l : List KV) : Prop :=
  ∃ ao c, v = .slice ao l.length c ∧ l.length ≤ c ∧ c ≤ maxLen ∧ (∀ (i : Nat) (x : KV), l[i]? = some x → ∃ g, ao = some ⟨g, 0, none⟩ ∧ w.cell? ⟨g, i * 2, none⟩ = some (.int .i64 x.1) ∧ w.cell? ⟨g, i * 2 + 1, none⟩ = some (.int .i64 x.2))
/-- A row of the document's list. -/
inductive RS (v : Value) : List KV → List Ent → Prop where
  | nil : v = .slice none 0 0 → RS v [] []
  | row (l : List KV) (g c : Nat) : v = .slice (some ⟨g, 0, none⟩) l.length c → RS v l [(g, RowP 50 2 c (l.flatMap c2))]
end Lr
theorem Lr.RS.rd {w0 w : World} {L E : List Ent} {v : Value} {l : List KV} (h : RS v l E) (HO : Own w0 w L) (hm : ∀ x ∈ E, x ∈ L) : Rd w v l := by
  cases h with
  | nil hv => exact ⟨none, 0, hv, by simp, by simp [maxLen], by simp⟩
  | row _ g c hv =>
    have hmem := hm _ (List.mem_singleton.2 rfl)
    obtain ⟨i, hi⟩ := List.getElem?_of_mem hmem
    obtain ⟨o, ho, cur, rfl, hp, hc, hmx⟩ := HO.at_i i hi
    have h1 := hp.length_le
    have h2 : cur.toList.length = cur.size := by simp
    rw [flat2_len, h2, hc] at h1
    refine ⟨_, c, hv, by omega, hmx, fun j x hj => ⟨g, rfl, ?_, ?_⟩⟩
    · exact HO.rowCell i hi (j * 2) (by have := flat2_get l j x 0 hj (by decide); simpa [c2] using this)
    · exact HO.rowCell i hi (j * 2 + 1) (by rw [flat2_get l j x 1 hj (by decide)]; rfl)
namespace Lr
def idxI (l : List KV) (k : Int) : Int := match idx l k with | some i => (i : Int) | none => -1
theorem take_sum (l : List KV) (i : Nat) (x : KV) (h : l[i]? = some x) : sum (l.take (i + 1)) = sum (l.take i) + x.2 := by
  rw [List.take_add_one, h, sum_append]
  simp [sum]
end Lr
set_option maxRecDepth 20000 in
set_option maxHeartbeats 4000000 in
theorem find_any {w : World} {v : Value} {l : List KV} (k : Int) (h : Rd w v l) (hl : l.length ≤ 1000000) :
    Calls Try.prog 32 #[v, .int .i64 k] w fun e w' => e = .returned (.int .i64 (idxI l k)) ∧ w = w' := by
  obtain ⟨ao, c, rfl, _, _, hc⟩ := h
  obtain ⟨N, hN⟩ : ∃ N, l.length = N := ⟨_, rfl⟩
  have HN := Lib.hid hN
  have HC := Lib.hid hc
  rw [hN] at hl ⊢
  clear hc hN
  go_enter Try.func32, Try.ntmps32
  go_wp2_with (fail)
  go_loopg [5] N (fun q x wr => ∃ i : Nat, x = .int .i64 (i : Int) ∧ i ≤ N ∧ q = N - i ∧ (∀ j x, j < i → l[j]? = some x → x.1 ≠ k) ∧ wr = w)
  case atStart => exact ⟨0, by rfl, by omega, by omega, fun j x hj => by omega, rfl⟩
  case round =>
    obtain ⟨i, rfl, i1, hq, hno, rfl⟩ := hrel
    have HNO := Lib.hid hno
    clear hno
    rcases Nat.lt_or_ge i N with hi | hi
    · have hd : decide ((i : Int) < (N : Int)) = true := decide_eq_true (by omega)
      have hw1 : IntKind.i64.wrap ((i : Int) + 1) = ((i + 1 : Nat) : Int) := by rw [IntWalk.i64_in _ (by omega)]; rfl
      have hb0 : (0 : Int) ≤ (i : Int) := by omega
      have hb1 : (i : Int) < (N : Int) := by omega
      obtain ⟨x, hx⟩ : ∃ x, l[i]? = some x := ⟨_, List.getElem?_eq_getElem (by rw [HN.out]; exact hi)⟩
      obtain ⟨g, rfl, c0, c1⟩ := HC.out i x hx
      have HX := Lib.hid hx
      clear hx c1
      by_cases e : x.1 = k
      · have he : (x.1 == k) = true := by simp [e]
        have hr := Lib.hid (show idxI l k = (i : Int) by unfold idxI; rw [idx_of (n := x.2) (by rw [← e]; exact HX.out) HNO.out])
        clear e
        go_wp2_with (refine li_loadAt 2 rfl rfl rfl c0 (by kernel_rfl) ?_)
        go_ret
        exact ⟨by rw [hr.out]; rfl, rfl⟩
      · have he : (x.1 == k) = false := by simp [e]
        have HE := Lib.hid e
        clear e
        go_wp2_with (refine li_loadAt 2 rfl rfl rfl c0 (by kernel_rfl) ?_)
        go_roundg (N - (i + 1))
        case measure => omega
        case rel =>
          refine ⟨i + 1, rfl, by omega, rfl, fun j y hj hy => ?_, rfl⟩
          rcases Nat.lt_or_ge j i with h | h
          · exact HNO.out j y h hy
          · obtain rfl : j = i := by omega
            have := HX.out
            rw [hy] at this
            injection this with this
            rw [this]; exact HE.out
    · have hd : decide ((i : Int) < (N : Int)) = false := decide_eq_false (by omega)
      have hr := Lib.hid (show idxI l k = -1 by
        unfold idxI
        rw [idx_none.2 fun x hx => ?_]
        obtain ⟨j, hj⟩ := List.getElem?_of_mem hx
        exact HNO.out j x (by have := (List.getElem?_eq_some_iff.1 hj).1; have := HN.out; omega) hj)
      go_wp2_with (fail)
      go_ret
      exact ⟨by rw [hr.out]; rfl, rfl⟩
set_option maxRecDepth 20000 in
set_option maxHeartbeats 4000000 in
theorem sum_any {w : World} {v : Value} {l : List KV} (h : Rd w v l) (hl : l.length ≤ 1000000) (hb : ∀ x ∈ l, 1 ≤ x.2 ∧ x.2 ≤ 1099511627776) :
    Calls Try.prog 31 #[v] w fun e w' => e = .returned (.int .i64 (sum l)) ∧ w = w' := by
  obtain ⟨ao, c, rfl, _, _, hc⟩ := h
  obtain ⟨N, hN⟩ : ∃ N, l.length = N := ⟨_, rfl⟩
  have HN := Lib.hid hN
  have HC := Lib.hid hc
  have HB := Lib.hid hb
  rw [hN] at hl ⊢
  clear hc hN hb
  go_enter Try.func31, Try.ntmps31
  go_wp2_with (fail)
  go_loopg [3, 4] N (fun q y x wr => ∃ i : Nat, x = .int .i64 (i : Int) ∧ i ≤ N ∧ q = N - i ∧ y = .int .i64 (sum (l.take i)) ∧ wr = w)
  case atStart => exact ⟨0, by rfl, by omega, by omega, by rfl, rfl⟩
  case round =>
    obtain ⟨i, rfl, i1, hq, rfl, rfl⟩ := hrel
    rcases Nat.lt_or_ge i N with hi | hi
    · have hd : decide ((i : Int) < (N : Int)) = true := decide_eq_true (by omega)
      have hw1 : IntKind.i64.wrap ((i : Int) + 1) = ((i + 1 : Nat) : Int) := by rw [IntWalk.i64_in _ (by omega)]; rfl
      have hb0 : (0 : Int) ≤ (i : Int) := by omega
      have hb1 : (i : Int) < (N : Int) := by omega
      obtain ⟨x, hx⟩ : ∃ x, l[i]? = some x := ⟨_, List.getElem?_eq_getElem (by rw [HN.out]; exact hi)⟩
      obtain ⟨g, rfl, c0, c1⟩ := HC.out i x hx
      have hs := take_sum l i x hx
      have hbx := HB.out x (List.mem_of_getElem? hx)
      have hsb := sum_bounds (l.take i) (fun y hy => HB.out y (List.mem_of_mem_take hy))
      have hlen : (l.take i).length = i := by rw [List.length_take, HN.out]; omega
      rw [hlen] at hsb
      have HS := Lib.hid hs
      obtain ⟨Z, hZ⟩ : ∃ Z, sum (l.take i) = Z := ⟨_, rfl⟩
      rw [hZ] at hsb ⊢
      have HZ := Lib.hid hZ
      have hw2 : IntKind.i64.wrap (Z + x.2) = Z + x.2 := IntWalk.i64_in _ (by omega)
      clear hs hx c0 hZ hlen
      go_wp2_with (refine li_loadAt 2 rfl rfl rfl c1 (by kernel_rfl) ?_)
      go_roundg (N - (i + 1))
      case measure => omega
      case rel => exact ⟨i + 1, rfl, by omega, rfl, by rw [HS.out, HZ.out], rfl⟩
    · obtain rfl : i = N := by omega
      have hd : decide ((i : Int) < (i : Int)) = false := by simp
      rw [List.take_of_length_le (by rw [HN.out]; omega)]
      obtain ⟨Z, hZ⟩ : ∃ Z, sum l = Z := ⟨_, rfl⟩
      rw [hZ]
      have HZ := Lib.hid hZ
      clear hZ
      go_wp2_with (fail)
      go_ret
      exact ⟨by rw [HZ.out]; rfl, rfl⟩
end Go.Proofs.Ytkkgajlddlnghaa

/- The reference's sketch: what it owns; where a cell's number stands. -/
import Derived.Test.YtdjcgfknlhijiaaSk
import Derived.Test.YtdjcgfknlhijiaaSn
namespace Go.Proofs.Ytdjcgfknlhijiaa
set_option linter.unusedVariables false
set_option linter.unusedSimpArgs false
set_option linter.unnecessarySimpa false
open Go.RowKit Go.Proofs.YtdjcgfknlhijiaaW.PrintLast
namespace Rs
def posI (n : Int) (cs : List Int) : Int := match pos n cs with | some i => (i : Int) | none => -1
theorem pos_take_hit {n : Int} {cs : List Int} {i : Nat} (h : pos n (cs.take i) = none) (hi : cs[i]? = some n) : pos n cs = some i := by
  have hl := (List.getElem?_eq_some_iff.1 hi).1
  have e : cs = cs.take i ++ n :: cs.drop (i + 1) := by
    rw [← (List.getElem?_eq_some_iff.1 hi).2, List.getElem_cons_drop, List.take_append_drop]
  have key : ∀ (l r : List Int), pos n l = none → pos n (l ++ n :: r) = some l.length := by
    intro l r
    induction l with
    | nil => intro _; simp [pos]
    | cons c l ih =>
      intro hp
      unfold pos at hp
      split at hp
      · cases hp
      · rename_i hc
        have hp' : pos n l = none := by
          cases hq : pos n l with
          | none => rfl
          | some k => rw [hq] at hp; cases hp
        simp only [List.cons_append, pos, if_neg hc, ih hp']
        simp
  have := key (cs.take i) (cs.drop (i + 1)) h
  rw [← e, List.length_take, Nat.min_eq_left (by omega)] at this
  exact this
theorem pos_take_miss {n c : Int} {cs : List Int} {i : Nat} (h : pos n (cs.take i) = none) (hi : cs[i]? = some c) (hc : c ≠ n) : pos n (cs.take (i + 1)) = none := by
  rw [List.take_add_one, hi]
  show pos n (cs.take i ++ [c]) = none
  rw [pos_append, h]
  simp [hc]
end Rs
abbrev rsl (r wd af ad : Int) (s1 s2 : Value) : List Value := [.int .i64 r, .int .i64 wd, .int .i64 af, .int .i64 ad, s1, s2]
set_option maxRecDepth 20000 in
set_option maxHeartbeats 4000000 in
theorem cell_nil {w0 w : World} {L : List Ent} {g : Nat} {r wd af ad : Int} {s2 : Value} (n : Int) (HO : Own w0 w ((g, CellsP 35 (rsl r wd af ad (.slice none 0 0) s2)) :: L)) :
    Calls Try.prog 24 #[.pointer (some ⟨g, 0, none⟩), .int .i64 n] w fun e w' => e = .returned (.int .i64 (-1)) ∧ w = w' := by
  go_enter Try.func24, Try.ntmps24
  go_wp2_with (first | (refine li_load 0 33 rfl rfl rfl HO rfl rfl (by kernel_rfl) ?_))
  go_loopg [12] 0 (fun k v wr => v = .int .i64 0 ∧ wr = w)
  case atStart => exact ⟨rfl, rfl⟩
  case round =>
    obtain ⟨rfl, rfl⟩ := hrel
    go_wp2_with (fail)
    go_ret
    exact ⟨rfl, rfl⟩
set_option maxRecDepth 20000 in
set_option maxHeartbeats 4000000 in
theorem cell_some {w0 w : World} {L : List Ent} {g g1 c1 N : Nat} {r wd af ad : Int} {s2 : Value} {cs : List Int} (n : Int) (HO : Own w0 w ((g, CellsP 35 (rsl r wd af ad (.slice (some ⟨g1, 0, none⟩) N c1) s2)) :: (g1, RowP 3 1 c1 (cells64 cs)) :: L)) (hN : cs.length = N) (hm : N ≤ 1000000) :
    Calls Try.prog 24 #[.pointer (some ⟨g, 0, none⟩), .int .i64 n] w fun e w' => e = .returned (.int .i64 (Rs.posI n cs)) ∧ w = w' := by
  go_enter Try.func24, Try.ntmps24
  go_wp2_with (first | (refine li_load 0 33 rfl rfl rfl HO rfl rfl (by kernel_rfl) ?_))
  go_loopg [12] N (fun k v wr => ∃ j : Nat, v = .int .i64 (j : Int) ∧ j ≤ N ∧ k = N - j ∧ Rs.pos n (cs.take j) = none ∧ wr = w)
  case atStart => exact ⟨0, by rfl, by omega, by omega, rfl, rfl⟩
  case round =>
    obtain ⟨j, rfl, j1, hk, hp, rfl⟩ := hrel
    rcases Nat.lt_or_ge j N with hj | hj
    · have hd : decide ((j : Int) < (N : Int)) = true := decide_eq_true (by omega)
      have hw1 : IntKind.i64.wrap ((j : Int) + 1) = ((j + 1 : Nat) : Int) := by rw [IntWalk.i64_in _ (by omega)]; rfl
      have hb0 : (0 : Int) ≤ (j : Int) := by omega
      have hb1 : (j : Int) < (N : Int) := by omega
      obtain ⟨c, hc⟩ : ∃ c, cs[j]? = some c := ⟨_, List.getElem?_eq_getElem (by omega)⟩
      have hget : (cells64 cs)[j]? = some (.int .i64 c) := by simp [cells64, hc]
      by_cases e : c = n
      · subst e
        have hpos := Rs.pos_take_hit hp hc
        have hI : Rs.posI c cs = (j : Int) := by unfold Rs.posI; rw [hpos]
        have H := Lib.hid hI
        clear hI hpos hp
        go_wp2_with (first | (refine li_loadRow 1 3 rfl rfl (off := j) rfl HO rfl hget (by kernel_rfl) ?_))
        go_ret
        exact ⟨by rw [H.out]; rfl, rfl⟩
      · have hpos := Rs.pos_take_miss hp hc e
        have he : (c == n) = false := by simp [e]
        have H := Lib.hid hpos
        clear hpos hp
        go_wp2_with (first | (refine li_loadRow 1 3 rfl rfl (off := j) rfl HO rfl hget (by kernel_rfl) ?_))
        go_roundg (N - (j + 1))
        case measure => omega
        case rel => exact ⟨j + 1, rfl, by omega, rfl, H.out, rfl⟩
    · obtain rfl : j = N := by omega
      have hd : decide ((j : Int) < (j : Int)) = false := by simp
      rw [List.take_of_length_le (by omega)] at hp
      have hI : Rs.posI n cs = -1 := by unfold Rs.posI; rw [hp]
      have H := Lib.hid hI
      clear hI hp
      go_wp2_with (fail)
      go_ret
      exact ⟨by rw [H.out]; rfl, rfl⟩
end Go.Proofs.Ytdjcgfknlhijiaa

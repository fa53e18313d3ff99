/- The laws on marks and on the four bytes. -/
import Derived.Test.YtaidfofcijnbeaaSj
namespace Go.Proofs.Ytaidfofcijnbeaa
set_option linter.unusedVariables false
set_option linter.unusedSimpArgs false
set_option linter.unnecessarySimpa false
open Go.RowKit
theorem bys_one (l : List (BitVec 8)) : ∀ u ∈ Crc.bys l, u.oneCell' = true := by
  intro u hu
  obtain ⟨b, _, rfl⟩ := List.mem_map.1 hu
  rfl
theorem ArgS_below {w w1 : World} {size : Nat} {v : Value} {l : List (List Value)} (h : ArgS w size v l) (hb : Below w.heap.size w w1) : ArgS w1 size v l := by
  obtain ⟨ao, cap, rfl, h1, h2, h3⟩ := h
  refine ⟨ao, cap, rfl, h1, h2, fun i b hi => ?_⟩
  obtain ⟨a, rfl, hc⟩ := h3 i b hi
  refine ⟨a, rfl, fun j x hj => ?_⟩
  have := hc j x hj
  rw [hb.cell (World.block_lt_of_cell? w _ this)]; exact this
set_option maxRecDepth 20000 in
set_option maxHeartbeats 8000000 in
theorem SumMarks_any {w : World} {v v2 : Value} {l : List (BitVec 8)} {ws : List Int} (hl : Bs w v l) (h2 : ArgS w 1 v2 (ws.map wordRow)) :
    Calls Try.prog 7 #[v, v2] w fun e w' => e = .returned (.bool true) ∧ Below w.heap.size w w' := by
  have HO := Own.nil w
  have HB := Lib.hid hl
  have HA := Lib.hid h2
  obtain ⟨ao, cap, rfl, hc1, hc2, _⟩ := hl
  obtain ⟨ao2, cap2, rfl, hd1, hd2, _⟩ := h2
  obtain ⟨n, hn⟩ : ∃ n, l.length = n := ⟨_, rfl⟩
  obtain ⟨m, hm⟩ : ∃ m, (ws.map wordRow).length = m := ⟨_, rfl⟩
  have HB2 := HB.out
  have HA2 := HA.out
  rw [hn] at hc1 HB2 ⊢
  rw [hm] at hd1 HA2 ⊢
  clear HB HA
  have HB := Lib.hid HB2
  have HA := Lib.hid HA2
  clear HB2 HA2 hn hm
  have NX : ∀ {w1 w2 : World}, Own w w1 [] → Below w1.heap.size w1 w2 → Own w w2 [] := fun h k => h.next k
  obtain ⟨c, hc⟩ : ∃ c, Crc.marks (Crc.crc l) ws = c := ⟨_, rfl⟩
  have HC := Lib.hid hc
  clear hc
  rcases Nat.lt_or_ge 1000 n with hj | hj
  · have hd : decide ((1000 : Int) < (n : Int)) = true := decide_eq_true (by omega)
    go_enter Try.func7, Try.ntmps7
    go_wp2_with (first | (go_at_call 8; (with_reducible refine (wakes_any HO).mono ?_); rintro e w2 ⟨rfl, HO1⟩; clear HO; have HO := HO1; clear HO1))
    go_ret
    exact ⟨rfl, HO.below⟩
  have hd : decide ((1000 : Int) < (n : Int)) = false := decide_eq_false (by omega)
  rcases Nat.lt_or_ge 50 m with hj2 | hj2
  · have hd2 : decide ((50 : Int) < (m : Int)) = true := decide_eq_true (by omega)
    go_enter Try.func7, Try.ntmps7
    go_wp2_with (first | (go_at_call 8; (with_reducible refine (wakes_any HO).mono ?_); rintro e w2 ⟨rfl, HO1⟩; clear HO; have HO := HO1; clear HO1))
    go_ret
    exact ⟨rfl, HO.below⟩
  have hd2 : decide ((50 : Int) < (m : Int)) = false := decide_eq_false (by omega)
  go_enter Try.func7, Try.ntmps7
  go_wp2_with (first | (go_at_call 8; (with_reducible refine (wakes_any HO).mono ?_); rintro e w2 ⟨rfl, HO1⟩; clear HO; have HO := HO1; clear HO1) | (go_at_call 15; (with_reducible refine (Mark_any (HO.bs HB.out) (ArgS_below HA.out HO.below)).mono ?_); rw [HC.out]; rintro e w2 ⟨rfl, hb⟩; replace HO := HO.next hb; clear hb) | (go_at_call 16; (with_reducible refine (RMark_any (HO.bs HB.out) (ArgS_below HA.out HO.below)).mono ?_); rw [HC.out]; rintro e w2 ⟨rfl, hb⟩; replace HO := HO.next hb; clear hb))
  go_ret
  exact ⟨rfl, HO.below⟩
theorem bs_news {w : World} {ao : Option Addr} {n cap : Nat} {l : List (BitVec 8)} (h : Bs w (.slice ao n cap) l) : (Crc.bys l).length = n * 1 ∧ ∀ j u, (Crc.bys l)[j]? = some u → ∃ ad, ao = some ad ∧ w.cell? (ad.add j) = some u := by
  obtain ⟨ao', cap', he, h1, h2, h3⟩ := h
  injection he with e1 e2 e3
  subst e1 e2 e3
  refine ⟨by simp [Crc.bys], fun j u hj => ?_⟩
  simp only [Crc.bys, List.getElem?_map] at hj
  cases hb : l[j]? with
  | none => rw [hb] at hj; cases hj
  | some b =>
    rw [hb] at hj
    simp at hj
    subst hj
    exact h3 j b hb
set_option maxRecDepth 20000 in
set_option maxHeartbeats 8000000 in
theorem SumFixes_any {w : World} {v : Value} {l : List (BitVec 8)} (s : Int) (hl : Bs w v l) (s0 : 0 ≤ s) (s1 : s < 4294967296) :
    Calls Try.prog 5 #[v, .int .u32 s] w fun e w' => e = .returned (.bool true) ∧ Below w.heap.size w w' := by
  obtain ⟨want, rfl⟩ := u32_bv s s0 s1
  have HO := Own.nil w
  have HB := Lib.hid hl
  obtain ⟨ao, cap, rfl, hc1, hc2, _⟩ := hl
  obtain ⟨n, hn⟩ : ∃ n, l.length = n := ⟨_, rfl⟩
  have HB2 := HB.out
  rw [hn] at hc1 HB2 ⊢
  clear HB
  have HB := Lib.hid HB2
  have HN := Lib.hid hn
  clear HB2 hn
  rcases Nat.lt_or_ge 1000 n with hj | hj
  · have hd : decide ((1000 : Int) < (n : Int)) = true := decide_eq_true (by omega)
    go_enter Try.func5, Try.ntmps5
    go_wp2_with (first | (go_at_call 8; (with_reducible refine (wakes_any HO).mono ?_); rintro e w2 ⟨rfl, HO1⟩; clear HO; have HO := HO1; clear HO1))
    go_ret
    exact ⟨rfl, HO.below⟩
  have hd : decide ((1000 : Int) < (n : Int)) = false := decide_eq_false (by omega)
  obtain ⟨c, hc⟩ : ∃ c, Crc.crc l = c := ⟨_, rfl⟩
  have HC := Lib.hid hc
  clear hc
  have hwl := Crc.vlt want
  go_enter Try.func5, Try.ntmps5
  go_upto_region 6 with (first | (go_at_call 8; (with_reducible refine (wakes_any HO).mono ?_); rintro e w2 ⟨rfl, HO1⟩; clear HO; have HO := HO1; clear HO1) | (go_at_call 9; (with_reducible refine (Of_any (HO.bs HB.out)).mono ?_); rw [HC.out]; rintro e w2 ⟨rfl, rfl⟩) | (go_at_call 14; (with_reducible refine (Fix_any c want HO).mono ?_); rintro e w2 ⟨gf, cf, lf, rfl, hl4, hff, HO1⟩; clear HO; have HO := HO1; clear HO1))
  have hres : Crc.crc (l ++ lf) = want := by
    have h1 : Crc.crc (l ++ lf) = Crc.more c lf := by rw [← HC.out]; exact (Crc.more_append 0#32 l lf).symm
    rw [h1]
    unfold Crc.more
    rw [hff, BitVec.not_not]
  have HR := Lib.hid hres
  have HL4 := Lib.hid hl4
  have hlen : (l ++ lf).length = n + 4 := by rw [List.length_append, HN.out, hl4]
  have HLEN := Lib.hid hlen
  have happ : Crc.bys l ++ Crc.bys lf = Crc.bys (l ++ lf) := by simp [Crc.bys]
  have HAPP := Lib.hid happ
  clear hres hff hl4 hlen happ
  have hmx : maxLen = 9223372036854775807 := rfl
  have hm1 := Lib.hid (show 0 + n ≤ maxLen by omega)
  have hm2 := Lib.hid (show n + 4 ≤ maxLen by omega)
  clear hmx
  go_wp2_with (first | (refine li_bslice 22 1 rfl rfl (by go_simp; rfl) rfl (by decide) HO ?_; clear HO; intro gn w1 HO) | (refine li_append_any 0 el22 rfl rfl (n := 0) rfl HO rfl rfl rfl (bs_news (HO.bs HB.out)).1 (bs_news (HO.bs HB.out)).2 (bys_one l) hm1.out (by omega) ?_; clear HO; intro gq cq wq hcq HO; simp only [List.nil_append, List.eraseIdx_cons_zero] at HO) | (refine li_append_any 0 el22 rfl rfl (n := n) rfl HO rfl (bs_news (HO.bs HB.out)).1 rfl (bs_news (Bs_row 1 HO rfl HL4.out)).1 (bs_news (Bs_row 1 HO rfl HL4.out)).2 (bys_one lf) hm2.out (by omega) ?_; clear HO; intro gr cr wr hcr HO; rw [HAPP.out] at HO) | (go_at_call 10; (refine (ROf_any (Bs_row 0 HO rfl HLEN.out)).mono ?_); rw [HR.out]; rintro e w2 ⟨rfl, rfl⟩))
  go_ret
  exact ⟨rfl, HO.below⟩
end Go.Proofs.Ytaidfofcijnbeaa

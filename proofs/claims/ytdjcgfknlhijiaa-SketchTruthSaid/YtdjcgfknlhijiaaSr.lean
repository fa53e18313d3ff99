/- The reference's count. -/
import Derived.Test.YtdjcgfknlhijiaaSq
namespace Go.Proofs.Ytdjcgfknlhijiaa
set_option linter.unusedVariables false
set_option linter.unusedSimpArgs false
set_option linter.unnecessarySimpa false
open Go.RowKit Go.Proofs.YtdjcgfknlhijiaaW.PrintLast
namespace Rs
theorem look_none {n : Int} {cs ns : List Int} (h : pos n cs = none) : look n cs ns = 0 := by unfold look; rw [h]
theorem look_some {n : Int} {cs ns : List Int} {i : Nat} (h : pos n cs = some i) : look n cs ns = ns.getD i 0 := by unfold look; rw [h]
end Rs
set_option maxRecDepth 20000 in
set_option maxHeartbeats 8000000 in
theorem RCount_any {w0 w : World} {L E : List Ent} {g : Nat} {af ad : Int} {rows wd : Nat} {cs ns : List Int} {R : List Row} (key : Int) (HO : Own w0 w (E ++ L)) (hE : RsP g rows wd af ad cs ns E) (k1 : 0 ≤ key) (k2 : key < 18446744073709551616) (hR : R.length = rows) (r1 : 1 ≤ rows) (r2 : rows ≤ 8) (d1 : 1 ≤ wd) (d2 : wd ≤ 65536) (hN : cs.length ≤ 900000)
    (hv : ∀ (j : Nat) (p : Row), R[j]? = some p → Rs.look (Rs.num key j wd) cs ns = Sk.val key j p ∧ 0 ≤ Sk.val key j p) :
    Calls Try.prog 18 #[.pointer (some ⟨g, 0, none⟩), .int .u64 key] w fun e w' => e = .returned (.int .i64 (Sk.count key R)) ∧ w = w' := by
  go_enter Try.func18, Try.ntmps18
  go_wp2_with (fail)
  go_loopg [5, 6] rows (fun k x5 v wr => ∃ (j : Nat) (o : Int), v = .int .i64 (j : Int) ∧ x5 = .int .i64 o ∧ j ≤ rows ∧ k = rows - j ∧ ((j = 0 ∧ o = -1) ∨ (0 < j ∧ o = Sk.leastTo key R j ∧ 0 ≤ o)) ∧ wr = w)
  case atStart => exact ⟨0, -1, by rfl, rfl, by omega, by omega, .inl ⟨rfl, rfl⟩, rfl⟩
  case round =>
    obtain ⟨j, o, rfl, rfl, j1, hk, ho, rfl⟩ := hrel
    rcases Nat.lt_or_ge j rows with hj | hj
    · have hw1 : IntKind.i64.wrap ((j : Int) + 1) = ((j + 1 : Nat) : Int) := by rw [IntWalk.i64_in _ (by omega)]; rfl
      have hIl := Sk.ixn_lt key j wd d1
      obtain ⟨I, hI⟩ : ∃ I, Sk.ixn key j wd = I := ⟨_, rfl⟩
      rw [hI] at hIl
      have hn : Rs.num key j wd = (j : Int) * 65536 + (I : Int) := by unfold Rs.num; rw [hI]
      have hd : decide ((j : Int) < (rows : Int)) = true := decide_eq_true (by omega)
      have hwm : IntKind.i64.wrap ((j : Int) * 65536) = (j : Int) * 65536 := IntWalk.i64_in _ (by omega)
      have hwn : IntKind.i64.wrap ((j : Int) * 65536 + (I : Int)) = (j : Int) * 65536 + (I : Int) := IntWalk.i64_in _ (by omega)
      obtain ⟨Q, hQ⟩ : ∃ Q, (j : Int) * 65536 + (I : Int) = Q := ⟨_, rfl⟩
      obtain ⟨p, hp⟩ : ∃ p, R[j]? = some p := ⟨_, List.getElem?_eq_getElem (by omega)⟩
      obtain ⟨hl1, hl2⟩ := hv j p hp
      rw [hQ] at hwn hn
      rw [hn] at hl1
      have hst : ∃ o2, (0 ≤ o2 ∧ o2 = Sk.leastTo key R (j + 1)) ∧ ((j = 0 ∧ o2 = Sk.val key j p) ∨ (0 < j ∧ o2 = min o (Sk.val key j p))) := by
        rcases ho with ⟨rfl, rfl⟩ | ⟨h0, h1, h2⟩
        · refine ⟨Sk.val key 0 p, ⟨hl2, ?_⟩, .inl ⟨rfl, rfl⟩⟩
          rw [Sk.least_succ hp, Sk.least_zero hp, Int.min_self]
        · exact ⟨min o (Sk.val key j p), ⟨by omega, by rw [Sk.least_succ hp, ← h1]⟩, .inr ⟨h0, rfl⟩⟩
      obtain ⟨o2, ⟨p0, p1⟩, p2⟩ := hst
      obtain ⟨V, hV⟩ : ∃ V, Sk.val key j p = V := ⟨_, rfl⟩
      rw [hV] at hl1 hl2 p2
      have HP1 := Lib.hid p1
      have hdec : ((o == -1) = true ∧ o2 = V) ∨ ((o == -1) = false ∧ decide (V < o) = true ∧ o2 = V) ∨ ((o == -1) = false ∧ decide (V < o) = false ∧ o2 = o) := by
        rcases ho with ⟨rfl, rfl⟩ | ⟨h0, h1, h2⟩
        · left; exact ⟨rfl, by omega⟩
        · right
          by_cases hlt : V < o
          · left; exact ⟨by simp; omega, decide_eq_true hlt, by omega⟩
          · right; exact ⟨by simp; omega, decide_eq_false (by omega), by omega⟩
      clear ho p1 p2 hV hn
      have hcell : ∃ P : Int, (∀ w2, w2 = wr → Calls Try.prog 24 #[.pointer (some ⟨g, 0, none⟩), .int .i64 Q] w2 fun e w' => e = .returned (.int .i64 P) ∧ w2 = w') ∧ ((decide ((0 : Int) ≤ P) = false ∧ V = 0) ∨ (decide ((0 : Int) ≤ P) = true ∧ ∃ (i N g2 c2 : Nat), P = (i : Int) ∧ i < N ∧ wr.cell? ⟨g, 5, none⟩ = some (.slice (some ⟨g2, 0, none⟩) N c2) ∧ wr.cell? ⟨g2, i, none⟩ = some (.int .i64 V))) := by
        rcases hE with ⟨h1, h2, rfl⟩ | ⟨N, g1, g2, c1, c2, h1, h2, h3, rfl⟩
        · subst h1 h2
          refine ⟨-1, fun w2 hw => by subst hw; exact cell_nil Q HO, .inl ⟨by decide, ?_⟩⟩
          rw [← hl1]; rfl
        · refine ⟨Rs.posI Q cs, fun w2 hw => by subst hw; exact cell_some Q HO h1 (by omega), ?_⟩
          cases hpos : Rs.pos Q cs with
          | none =>
            left
            rw [Rs.look_none hpos] at hl1
            unfold Rs.posI; rw [hpos]
            exact ⟨by decide, hl1.symm⟩
          | some i =>
            right
            rw [Rs.look_some hpos] at hl1
            have hil := Rs.pos_lt hpos
            unfold Rs.posI; rw [hpos]
            have hx : ns[i]? = some V := by
              rw [List.getElem?_eq_getElem (by omega)]
              rw [List.getD_eq_getElem?_getD, List.getElem?_eq_getElem (by omega)] at hl1
              simpa using hl1
            refine ⟨decide_eq_true (by show (0 : Int) ≤ (i : Int); omega), i, N, g2, c2, rfl, by omega, HO.cell 0 rfl 5 rfl, ?_⟩
            exact HO.rowCell 2 rfl i (by simp [cells64, hx])
      obtain ⟨P, hP, hPc⟩ := hcell
      have HPC := Lib.hid hP
      have hload : ∀ x, ((rsl rows wd af ad x x))[0]? = some (.int .i64 (rows : Int)) := fun _ => rfl
      have c0 : wr.cell? ⟨g, 0, none⟩ = some (.int .i64 (rows : Int)) := by
        rcases hE with ⟨h1, h2, rfl⟩ | ⟨N, g1, g2, c1, c2, h1, h2, h3, rfl⟩ <;> exact HO.cell 0 rfl 0 rfl
      have c1' : wr.cell? ⟨g, 1, none⟩ = some (.int .i64 (wd : Int)) := by
        rcases hE with ⟨h1, h2, rfl⟩ | ⟨N, g1, g2, c1, c2, h1, h2, h3, rfl⟩ <;> exact HO.cell 0 rfl 1 rfl
      clear hP hl1 hload hE HO hp hv
      rcases hPc with ⟨hP0, hV0⟩ | ⟨hP0, i, N, g2, c2, rfl, hiN, c5, c6⟩
      · subst hV0
        rcases hdec with ⟨q1, rfl⟩ | ⟨q1, q2, rfl⟩ | ⟨q1, q2, rfl⟩
        all_goals
            go_wp2_with (first | (refine li_loadAt 3 rfl rfl rfl c0 (by kernel_rfl) ?_) | (refine li_loadAt 3 rfl rfl rfl c1' (by kernel_rfl) ?_) | (go_at_call 23; refine (Mix_any key j wd _ k1 k2 (by omega) (by omega) (by omega) (by omega)).mono ?_; rw [hI]; rintro e w2 ⟨rfl, rfl⟩) | (go_at_call 24; refine (HPC.out _ rfl).mono ?_; rintro e w2 ⟨rfl, rfl⟩))
            go_roundg (rows - (j + 1))
            case measure => omega
            case rel => exact ⟨j + 1, _, rfl, rfl, by omega, rfl, .inr ⟨by omega, HP1.out, p0⟩, rfl⟩
      · have hb0 : (0 : Int) ≤ (i : Int) := by omega
        have hb1 : (i : Int) < (N : Int) := by omega
        rcases hdec with ⟨q1, rfl⟩ | ⟨q1, q2, rfl⟩ | ⟨q1, q2, rfl⟩
        all_goals
            go_wp2_with (first | (refine li_loadAt 3 rfl rfl rfl c0 (by kernel_rfl) ?_) | (refine li_loadAt 3 rfl rfl rfl c1' (by kernel_rfl) ?_) | (go_at_call 23; refine (Mix_any key j wd _ k1 k2 (by omega) (by omega) (by omega) (by omega)).mono ?_; rw [hI]; rintro e w2 ⟨rfl, rfl⟩) | (go_at_call 24; refine (HPC.out _ rfl).mono ?_; rintro e w2 ⟨rfl, rfl⟩) | (refine li_loadAt 33 rfl rfl rfl c5 (by kernel_rfl) ?_) | (refine li_loadAt 3 (ad := ⟨g2, i, none⟩) rfl rfl rfl c6 (by kernel_rfl) ?_))
            go_roundg (rows - (j + 1))
            case measure => omega
            case rel => exact ⟨j + 1, _, rfl, rfl, by omega, rfl, .inr ⟨by omega, HP1.out, p0⟩, rfl⟩
    · obtain rfl : j = rows := by omega
      have hd : decide ((j : Int) < (j : Int)) = false := by simp
      have c0 : wr.cell? ⟨g, 0, none⟩ = some (.int .i64 (j : Int)) := by
        rcases hE with ⟨h1, h2, rfl⟩ | ⟨N, g1, g2, c1, c2, h1, h2, h3, rfl⟩ <;> exact HO.cell 0 rfl 0 rfl
      rcases ho with ⟨h0, _⟩ | ⟨h0, h1, h2⟩
      · omega
      have hcnt : Sk.count key R = Sk.leastTo key R j := by unfold Sk.count; rw [hR]
      rw [← h1] at hcnt
      have HCNT := Lib.hid hcnt
      clear hcnt h1 hE HO hv
      go_wp2_with (refine li_loadAt 3 rfl rfl rfl c0 (by kernel_rfl) ?_)
      go_ret
      exact ⟨by rw [HCNT.out]; rfl, rfl⟩
end Go.Proofs.Ytdjcgfknlhijiaa

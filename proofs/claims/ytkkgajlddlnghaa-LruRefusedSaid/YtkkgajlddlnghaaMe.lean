/- The document's list: take, Drop. -/
import Derived.Test.YtkkgajlddlnghaaMd
namespace Go.Proofs.Ytkkgajlddlnghaa
set_option linter.unusedVariables false
set_option linter.unusedSimpArgs false
set_option linter.unnecessarySimpa false
open Go.RowKit Go.Proofs.YtkkgajlddlnghaaW.PrintLast Lr
def pv (x : KV) : Value := .agg #[.int .i64 x.1, .int .i64 x.2]
theorem own_tT {w0 w : World} {q a b m : Ent} {E R : List Ent} (h : Own w0 w (q :: a :: b :: m :: (E ++ R))) : Own w0 w (m :: ([q] ++ R)) :=
  own_rT (h.sub (.cons_cons _ (.cons _ (.cons _ (List.Sublist.refl _)))) : Own w0 w (q :: m :: (E ++ R)))
theorem own_tK {w0 w : World} {q a b m : Ent} {E F L : List Ent} (h : Own w0 w (q :: a :: b :: m :: (E ++ (F ++ L)))) : Own w0 w (m :: (E ++ ([q] ++ L))) :=
  own_rK (h.sub (.cons_cons _ (.cons _ (.cons _ (List.Sublist.refl _)))) : Own w0 w (q :: m :: (E ++ (F ++ L))))
theorem pair_at {w : World} {g i : Nat} {x : KV} (h0 : w.cell? ⟨g, i * 2, none⟩ = some (.int .i64 x.1)) (h1 : w.cell? ⟨g, i * 2 + 1, none⟩ = some (.int .i64 x.2)) : ∀ j v, ([Value.int .i64 x.1, .int .i64 x.2] : List Value)[j]? = some v → w.cell? ((⟨g, i * 2, none⟩ : Addr).add j) = some v := by
  intro j v hj
  rw [add_off]
  match j, hj with
  | 0, hj => simp at hj; rw [← hj]; exact h0
  | 1, hj => simp at hj; rw [← hj]; exact h1
set_option maxRecDepth 20000 in
set_option maxHeartbeats 4000000 in
theorem RTake_none {w0 w : World} {L : List Ent} {m : Nat} {s : S} (k : Int) (HR : Rw w0 w L m s) (hc : (all s).length ≤ 100000) (ht : take s k = none) :
    Calls Try.prog 37 #[.pointer (some ⟨m, 0, none⟩), .int .i64 k] w fun e w' => e = .returned (.tuple #[pv (0, 0), .bool false]) ∧ Rw w0 w' L m s := by
  obtain ⟨vt, vk, Et, Ek, hT, hK, HO⟩ := HR
  have hlen : s.trial.length + s.kept.length ≤ 100000 := by unfold all at hc; simp at hc; omega
  have FT := Lib.hid (fun w' A (H : Own w0 w' (A ++ ((m, CellsP 32 [.int .i64 s.most, vt, vk]) :: (Et ++ (Ek ++ L))))) => find_any k (hT.rd H (fun x hx => by simp [hx])) (by omega))
  have FK := Lib.hid (fun w' A (H : Own w0 w' (A ++ ((m, CellsP 32 [.int .i64 s.most, vt, vk]) :: (Et ++ (Ek ++ L))))) => find_any k (hK.rd H (fun x hx => by simp [hx])) (by omega))
  have h1 : idxI s.trial k = -1 := by
    unfold idxI; unfold take at ht
    cases hi : idx s.trial k with
    | none => rfl
    | some i => rw [hi] at ht; cases ht
  have h2 : idxI s.kept k = -1 := by
    unfold idxI; unfold take at ht
    cases hi : idx s.trial k with
    | some i => rw [hi] at ht; cases ht
    | none =>
      rw [hi] at ht
      cases hj : idx s.kept k with
      | none => rfl
      | some i => rw [hj] at ht; cases ht
  rw [h1] at FT
  rw [h2] at FK
  have HT := Lib.hid hT
  have HK := Lib.hid hK
  clear hT hK h1 h2 ht hlen hc
  go_enter Try.func37, Try.ntmps37
  go_wp2_with (first | (refine li_alloc (t := 50) rfl rfl (z := .agg #[.int .i64 0, .int .i64 0]) (cs := [.int .i64 0, .int .i64 0]) (by kernel_rfl) rfl HO ?_; clear HO; intro ga wa HO) | (refine li_load 1 30 rfl rfl rfl HO rfl rfl (by kernel_rfl) ?_))
  go_at_call 32; refine (FT.out _ [_] HO).mono ?_; rintro e w2 ⟨rfl, rfl⟩
  go_wp2_with (refine li_load 1 30 rfl rfl rfl HO rfl rfl (by kernel_rfl) ?_)
  go_at_call 32; refine (FK.out _ [_] HO).mono ?_; rintro e w2 ⟨rfl, rfl⟩
  go_wp2_with (refine li_storeAgg 0 50 rfl rfl rfl rfl HO rfl rfl rfl rfl (by kernel_rfl) ?_; clear HO; intro ws HO; simp only [List.set_cons_zero] at HO)
  refine bodyPost_ret (v := .tuple #[pv (0, 0), .bool false]) ?_ rfl ⟨rfl, vt, vk, Et, Ek, HT.out, HK.out, HO.tail⟩
  simp [results, Try.results37, asAddr, HO.loadWhole (P := Try.prog) 0 rfl 50 2 rfl (by kernel_rfl) (by kernel_rfl) (by kernel_rfl), pv]
set_option maxRecDepth 20000 in
set_option maxHeartbeats 8000000 in
theorem RTake_some {w0 w : World} {L : List Ent} {m : Nat} {s s1 : S} {x : KV} (k : Int) (HR : Rw w0 w L m s) (hc : (all s).length ≤ 100000) (ht : take s k = some (x, s1)) :
    Calls Try.prog 37 #[.pointer (some ⟨m, 0, none⟩), .int .i64 k] w fun e w' => e = .returned (.tuple #[pv x, .bool true]) ∧ Rw w0 w' L m s1 := by
  obtain ⟨vt, vk, Et, Ek, hT, hK, HO⟩ := HR
  have hlen : s.trial.length + s.kept.length ≤ 100000 := by unfold all at hc; simp at hc; omega
  have FT := Lib.hid (fun w' A (H : Own w0 w' (A ++ ((m, CellsP 32 [.int .i64 s.most, vt, vk]) :: (Et ++ (Ek ++ L))))) => find_any k (hT.rd H (fun x hx => by simp [hx])) (by omega))
  have FK := Lib.hid (fun w' A (H : Own w0 w' (A ++ ((m, CellsP 32 [.int .i64 s.most, vt, vk]) :: (Et ++ (Ek ++ L))))) => find_any k (hK.rd H (fun x hx => by simp [hx])) (by omega))
  have HT := Lib.hid hT
  have HK := Lib.hid hK
  cases hi : idx s.trial k with
  | some i =>
    have h1 : idxI s.trial k = (i : Int) := by unfold idxI; rw [hi]
    rw [h1] at FT
    obtain ⟨n, hn, _⟩ := idx_some hi
    have hil := (List.getElem?_eq_some_iff.1 hn).1
    unfold take at ht
    rw [hi] at ht
    simp only [Option.some.injEq, Prod.mk.injEq] at ht
    obtain ⟨hx, hs⟩ := ht
    have hx' : x = (k, n) := by rw [← hx, List.getD_eq_getElem?_getD, hn]; rfl
    subst hx'
    obtain ⟨gT, cT, hvT, hEt⟩ : ∃ gT cT, vt = .slice (some ⟨gT, 0, none⟩) s.trial.length cT ∧ Et = [(gT, RowP 50 2 cT (s.trial.flatMap c2))] := by
      obtain ⟨l, hl⟩ : ∃ l, s.trial = l := ⟨_, rfl⟩
      rw [hl] at hT hn ⊢
      cases hT with
      | nil _ => simp at hn
      | row _ g c h => exact ⟨g, c, h, rfl⟩
    have WO := Lib.hid (fun w' A (H : Own w0 w' (A ++ ((m, CellsP 32 [.int .i64 s.most, vt, vk]) :: (Et ++ (Ek ++ L))))) => without_any (g := gT) (N := s.trial.length) (c := cT) (l := s.trial) i H (by rw [hEt]; simp) rfl hil (by omega))
    have HC := Lib.hid (show ∀ w' A, Own w0 w' (A ++ ((m, CellsP 32 [.int .i64 s.most, vt, vk]) :: (Et ++ (Ek ++ L)))) → w'.cell? ⟨gT, i * 2, none⟩ = some (.int .i64 k) ∧ w'.cell? ⟨gT, i * 2 + 1, none⟩ = some (.int .i64 n) from fun w' A H => by
      have hm : (gT, RowP 50 2 cT (s.trial.flatMap c2)) ∈ A ++ ((m, CellsP 32 [.int .i64 s.most, vt, vk]) :: (Et ++ (Ek ++ L))) := by rw [hEt]; simp
      exact ⟨H.rowCellM hm (i * 2) (by have := flat2_get _ i (k, n) 0 hn (by decide); simpa [c2] using this), H.rowCellM hm (i * 2 + 1) (by rw [flat2_get _ i (k, n) 1 hn (by decide)]; rfl)⟩)
    have HS := Lib.hid hs
    obtain ⟨N, hN⟩ : ∃ N, s.trial.length = N := ⟨_, rfl⟩
    rw [hN] at hil hvT WO
    have hb0 : (0 : Int) ≤ (i : Int) := by omega
    have hb1 : (i : Int) < (N : Int) := by omega
    have hd : decide ((0 : Int) ≤ (i : Int)) = true := decide_eq_true (by omega)
    subst hvT
    clear hT hK hi h1 hn hx hs hEt hN hlen hc FK
    go_enter Try.func37, Try.ntmps37
    go_wp2_with (first | (refine li_alloc (t := 50) rfl rfl (z := .agg #[.int .i64 0, .int .i64 0]) (cs := [.int .i64 0, .int .i64 0]) (by kernel_rfl) rfl HO ?_; clear HO; intro ga wa HO) | (refine li_load 1 30 rfl rfl rfl HO rfl rfl (by kernel_rfl) ?_))
    go_at_call 32; refine (FT.out _ [_] HO).mono ?_; rintro e w2 ⟨rfl, rfl⟩
    obtain ⟨c0, c1⟩ := HC.out _ [_] HO
    go_wp2_with (first | (refine li_loadAggAt 50 2 (vs := [.int .i64 k, .int .i64 n]) rfl rfl rfl (pair_at (x := (k, n)) c0 c1) rfl (by kernel_rfl) (by kernel_rfl) (by kernel_rfl) ?_) | (refine li_alloc (t := 50) rfl rfl (z := .agg #[.int .i64 0, .int .i64 0]) (cs := [.int .i64 0, .int .i64 0]) (by kernel_rfl) rfl HO ?_; clear HO; intro gb wb HO) | (refine li_storeAgg 0 50 rfl rfl rfl rfl HO rfl rfl rfl rfl (by kernel_rfl) ?_; clear HO; intro ws HO; simp only [List.set_cons_zero] at HO) | (refine li_load 1 30 rfl rfl rfl HO rfl rfl (by kernel_rfl) ?_) | (refine li_load 2 30 rfl rfl rfl HO rfl rfl (by kernel_rfl) ?_))
    go_at_call 38; refine (WO.out _ [_, _] HO).mono ?_; rintro e w3 ⟨gq, cq, rfl, HO1⟩
    clear HO c0 c1
    have HO := HO1
    clear HO1
    go_wp2_with (first | (refine li_storeSlice 3 30 rfl rfl rfl rfl HO rfl rfl (by simp) (by kernel_rfl) ?_; clear HO; intro ws HO; simp only [List.set_cons_zero, List.set_cons_succ] at HO) | (refine li_loadWhole 1 50 2 rfl rfl rfl HO rfl rfl (by kernel_rfl) (by kernel_rfl) (by kernel_rfl) ?_) | (refine li_storeAgg 2 50 rfl rfl rfl rfl HO rfl rfl rfl rfl (by kernel_rfl) ?_; clear HO; intro ws HO; simp only [List.set_cons_zero, List.set_cons_succ] at HO))
    refine bodyPost_ret (v := .tuple #[pv (k, n), .bool true]) ?_ rfl ⟨rfl, ?_⟩
    · simp [results, Try.results37, asAddr, HO.loadWhole (P := Try.prog) 2 rfl 50 2 rfl (by kernel_rfl) (by kernel_rfl) (by kernel_rfl), pv]
    · rw [← HS.out]
      exact ⟨_, vk, [_], Ek, .row (s.trial.eraseIdx i) gq cq rfl, HK.out, own_tT HO⟩
  | none =>
    have h1 : idxI s.trial k = -1 := by unfold idxI; rw [hi]
    rw [h1] at FT
    unfold take at ht
    rw [hi] at ht
    simp only at ht
    cases hj : idx s.kept k with
    | none => rw [hj] at ht; cases ht
    | some i =>
    have h2 : idxI s.kept k = (i : Int) := by unfold idxI; rw [hj]
    rw [h2] at FK
    obtain ⟨n, hn, _⟩ := idx_some hj
    have hil := (List.getElem?_eq_some_iff.1 hn).1
    rw [hj] at ht
    simp only [Option.some.injEq, Prod.mk.injEq] at ht
    obtain ⟨hx, hs⟩ := ht
    have hx' : x = (k, n) := by rw [← hx, List.getD_eq_getElem?_getD, hn]; rfl
    subst hx'
    obtain ⟨gT, cT, hvT, hEt⟩ : ∃ gT cT, vk = .slice (some ⟨gT, 0, none⟩) s.kept.length cT ∧ Ek = [(gT, RowP 50 2 cT (s.kept.flatMap c2))] := by
      obtain ⟨l, hl⟩ : ∃ l, s.kept = l := ⟨_, rfl⟩
      rw [hl] at hK hn ⊢
      cases hK with
      | nil _ => simp at hn
      | row _ g c h => exact ⟨g, c, h, rfl⟩
    have WO := Lib.hid (fun w' A (H : Own w0 w' (A ++ ((m, CellsP 32 [.int .i64 s.most, vt, vk]) :: (Et ++ (Ek ++ L))))) => without_any (g := gT) (N := s.kept.length) (c := cT) (l := s.kept) i H (by rw [hEt]; simp) rfl hil (by omega))
    have HC := Lib.hid (show ∀ w' A, Own w0 w' (A ++ ((m, CellsP 32 [.int .i64 s.most, vt, vk]) :: (Et ++ (Ek ++ L)))) → w'.cell? ⟨gT, i * 2, none⟩ = some (.int .i64 k) ∧ w'.cell? ⟨gT, i * 2 + 1, none⟩ = some (.int .i64 n) from fun w' A H => by
      have hm : (gT, RowP 50 2 cT (s.kept.flatMap c2)) ∈ A ++ ((m, CellsP 32 [.int .i64 s.most, vt, vk]) :: (Et ++ (Ek ++ L))) := by rw [hEt]; simp
      exact ⟨H.rowCellM hm (i * 2) (by have := flat2_get _ i (k, n) 0 hn (by decide); simpa [c2] using this), H.rowCellM hm (i * 2 + 1) (by rw [flat2_get _ i (k, n) 1 hn (by decide)]; rfl)⟩)
    have HS := Lib.hid hs
    obtain ⟨N, hN⟩ : ∃ N, s.kept.length = N := ⟨_, rfl⟩
    rw [hN] at hil hvT WO
    have hb0 : (0 : Int) ≤ (i : Int) := by omega
    have hb1 : (i : Int) < (N : Int) := by omega
    have hd : decide ((0 : Int) ≤ (i : Int)) = true := decide_eq_true (by omega)
    subst hvT
    clear hT hK hi hj h1 h2 hn hx hs hEt hN hlen hc
    go_enter Try.func37, Try.ntmps37
    go_wp2_with (first | (refine li_alloc (t := 50) rfl rfl (z := .agg #[.int .i64 0, .int .i64 0]) (cs := [.int .i64 0, .int .i64 0]) (by kernel_rfl) rfl HO ?_; clear HO; intro ga wa HO) | (refine li_load 1 30 rfl rfl rfl HO rfl rfl (by kernel_rfl) ?_))
    go_at_call 32; refine (FT.out _ [_] HO).mono ?_; rintro e w2 ⟨rfl, rfl⟩
    go_wp2_with (refine li_load 1 30 rfl rfl rfl HO rfl rfl (by kernel_rfl) ?_)
    go_at_call 32; refine (FK.out _ [_] HO).mono ?_; rintro e w2 ⟨rfl, rfl⟩
    obtain ⟨c0, c1⟩ := HC.out _ [_] HO
    clear FT FK
    go_wp2_with (first | (refine li_loadAggAt 50 2 (vs := [.int .i64 k, .int .i64 n]) rfl rfl rfl (pair_at (x := (k, n)) c0 c1) rfl (by kernel_rfl) (by kernel_rfl) (by kernel_rfl) ?_) | (refine li_alloc (t := 50) rfl rfl (z := .agg #[.int .i64 0, .int .i64 0]) (cs := [.int .i64 0, .int .i64 0]) (by kernel_rfl) rfl HO ?_; clear HO; intro gb wb HO) | (refine li_storeAgg 0 50 rfl rfl rfl rfl HO rfl rfl rfl rfl (by kernel_rfl) ?_; clear HO; intro ws HO; simp only [List.set_cons_zero] at HO) | (refine li_load 1 30 rfl rfl rfl HO rfl rfl (by kernel_rfl) ?_) | (refine li_load 2 30 rfl rfl rfl HO rfl rfl (by kernel_rfl) ?_))
    go_at_call 38; refine (WO.out _ [_, _] HO).mono ?_; rintro e w3 ⟨gq, cq, rfl, HO1⟩
    clear HO c0 c1
    have HO := HO1
    clear HO1
    go_wp2_with (first | (refine li_storeSlice 3 30 rfl rfl rfl rfl HO rfl rfl (by simp) (by kernel_rfl) ?_; clear HO; intro ws HO; simp only [List.set_cons_zero, List.set_cons_succ] at HO) | (refine li_loadWhole 1 50 2 rfl rfl rfl HO rfl rfl (by kernel_rfl) (by kernel_rfl) (by kernel_rfl) ?_) | (refine li_storeAgg 2 50 rfl rfl rfl rfl HO rfl rfl rfl rfl (by kernel_rfl) ?_; clear HO; intro ws HO; simp only [List.set_cons_zero, List.set_cons_succ] at HO))
    refine bodyPost_ret (v := .tuple #[pv (k, n), .bool true]) ?_ rfl ⟨rfl, ?_⟩
    · simp [results, Try.results37, asAddr, HO.loadWhole (P := Try.prog) 2 rfl 50 2 rfl (by kernel_rfl) (by kernel_rfl) (by kernel_rfl), pv]
    · rw [← HS.out]
      exact ⟨vt, _, Et, [_], HT.out, .row (s.kept.eraseIdx i) gq cq rfl, own_tK HO⟩
set_option maxRecDepth 20000 in
set_option maxHeartbeats 4000000 in
theorem RDrop_any {w0 w : World} {L : List Ent} {m : Nat} {s : S} (k : Int) (HR : Rw w0 w L m s) (hc : (all s).length ≤ 100000) :
    Calls Try.prog 27 #[.pointer (some ⟨m, 0, none⟩), .int .i64 k] w fun e w' => e = .returned (.bool (isIn s k)) ∧ Rw w0 w' L m (dropped s k) := by
  cases ht : take s k with
  | none =>
    have hi := take_none.1 ht
    have hs : dropped s k = s := by unfold dropped; rw [ht]
    rw [hi, hs]
    have F := Lib.hid (RTake_none k HR hc ht)
    clear hi hs ht
    go_enter Try.func27, Try.ntmps27
    go_wp2_with (fail)
    go_at_call 37; refine F.out.mono ?_; rintro e w2 ⟨rfl, vt, vk, Et, Ek, hT, hK, HO⟩
    unfold pv
    go_wp2_with (first | (refine li_alloc (t := 50) rfl rfl (z := .agg #[.int .i64 0, .int .i64 0]) (cs := [.int .i64 0, .int .i64 0]) (by kernel_rfl) rfl HO ?_; clear HO; intro ga wa HO) | (refine li_storeAgg 0 50 rfl rfl rfl rfl HO rfl rfl rfl rfl (by kernel_rfl) ?_; clear HO; intro ws HO; simp only [List.set_cons_zero] at HO))
    go_ret
    exact ⟨rfl, vt, vk, Et, Ek, hT, hK, HO.tail⟩
  | some p =>
    obtain ⟨x, s1⟩ := p
    have hi : isIn s k = true := by
      cases h : isIn s k with
      | true => rfl
      | false => rw [take_none.2 h] at ht; cases ht
    have hs : dropped s k = s1 := by unfold dropped; rw [ht]
    rw [hi, hs]
    have F := Lib.hid (RTake_some k HR hc ht)
    clear hi hs ht
    go_enter Try.func27, Try.ntmps27
    go_wp2_with (fail)
    go_at_call 37; refine F.out.mono ?_; rintro e w2 ⟨rfl, vt, vk, Et, Ek, hT, hK, HO⟩
    unfold pv
    go_wp2_with (first | (refine li_alloc (t := 50) rfl rfl (z := .agg #[.int .i64 0, .int .i64 0]) (cs := [.int .i64 0, .int .i64 0]) (by kernel_rfl) rfl HO ?_; clear HO; intro ga wa HO) | (refine li_storeAgg 0 50 rfl rfl rfl rfl HO rfl rfl rfl rfl (by kernel_rfl) ?_; clear HO; intro ws HO; simp only [List.set_cons_zero] at HO))
    go_ret
    exact ⟨rfl, vt, vk, Et, Ek, hT, hK, HO.tail⟩
end Go.Proofs.Ytkkgajlddlnghaa

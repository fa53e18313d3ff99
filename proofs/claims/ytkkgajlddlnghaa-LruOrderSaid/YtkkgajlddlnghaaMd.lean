/- The document's list: Add, take, Drop. -/
import Derived.Test.YtkkgajlddlnghaaMc
namespace Go.Proofs.Ytkkgajlddlnghaa
set_option linter.unusedVariables false
set_option linter.unusedSimpArgs false
set_option linter.unnecessarySimpa false
open Go.RowKit Go.Proofs.YtkkgajlddlnghaaW.PrintLast Lr
namespace Lr
theorem idx_app (k : Int) : ∀ (l m : List KV), (idx (l ++ m) k).isSome = ((idx l k).isSome || (idx m k).isSome)
  | [], m => by simp [idx]
  | x :: l, m => by
    rw [List.cons_append]
    by_cases e : x.1 = k
    · simp [idx, e]
    · have h1 : idx (x :: (l ++ m)) k = (idx (l ++ m) k).map (· + 1) := by rw [idx, if_neg e]
      have h2 : idx (x :: l) k = (idx l k).map (· + 1) := by rw [idx, if_neg e]
      rw [h1, h2, Option.isSome_map, Option.isSome_map]
      exact idx_app k l m
theorem flat_snoc (l : List KV) (k n : Int) : [] ++ l.flatMap c2 ++ [Value.int .i64 k, .int .i64 n] = (l ++ [(k, n)]).flatMap c2 := by
  rw [List.nil_append, List.flatMap_append]; rfl
end Lr
theorem own_rT {w0 w : World} {q m : Ent} {E R : List Ent} (h : Own w0 w (q :: m :: (E ++ R))) : Own w0 w (m :: ([q] ++ R)) :=
  (h.sub (.cons_cons _ (.cons_cons _ (List.sublist_append_right E R)))).perm (List.Perm.swap m q R)
theorem own_rK {w0 w : World} {q m : Ent} {E F L : List Ent} (h : Own w0 w (q :: m :: (E ++ (F ++ L)))) : Own w0 w (m :: (E ++ ([q] ++ L))) := by
  have h1 : Own w0 w (q :: m :: (E ++ L)) := h.sub (.cons_cons _ (.cons_cons _ (List.Sublist.append_left (List.sublist_append_right F L) E)))
  refine (h1.perm (List.Perm.swap m q _)).perm (List.Perm.cons m ?_)
  exact List.perm_middle.symm
set_option maxRecDepth 20000 in
set_option maxHeartbeats 4000000 in
theorem RAdd_any {w0 w : World} {L : List Ent} {m : Nat} {s : S} (k b : Int) (HR : Rw w0 w L m s) (hc : (all s).length ≤ 100000) :
    Calls Try.prog 29 #[.pointer (some ⟨m, 0, none⟩), .int .i64 k, .int .i64 b] w fun e w' => e = .returned (.int .i64 (addE s k b)) ∧ Rw w0 w' L m (add s k b) := by
  have HRW := Lib.hid HR
  obtain ⟨vt, vk, Et, Ek, hT, hK, HO⟩ := HR
  have hlen : s.trial.length + s.kept.length ≤ 100000 := by unfold all at hc; simp at hc; omega
  by_cases hb : b < 1 ∨ 1099511627776 < b
  · have he : addE s k b = 1 := by unfold addE; rw [if_pos hb]
    have hs : add s k b = s := by unfold add; rw [he, if_neg (by decide)]
    rw [he, hs]
    have H := Lib.hid hb
    clear hb hT hK he hs hc hlen
    go_enter Try.func29, Try.ntmps29
    go_wp2
    all_goals first | (exfalso; have := H.out; omega) | (go_ret; exact ⟨rfl, HRW.out⟩)
  have d1 : decide (b < 1) = false := decide_eq_false (by omega)
  have d2 : decide ((1099511627776 : Int) < b) = false := decide_eq_false (by omega)
  have FT := Lib.hid (find_any k (hT.rd HO (fun x hx => by simp [hx])) (by omega))
  have FK := Lib.hid (find_any k (hK.rd HO (fun x hx => by simp [hx])) (by omega))
  have h7 := idx_app k s.trial s.kept
  cases hi : idx s.trial k with
  | some i =>
    have he : addE s k b = 7 := by unfold addE all; rw [if_neg hb, h7, hi]; rfl
    have hs : add s k b = s := by unfold add; rw [he, if_neg (by decide)]
    have h1 : idxI s.trial k = (i : Int) := by unfold idxI; rw [hi]
    rw [h1] at FT
    rw [he, hs]
    have hd : decide ((0 : Int) ≤ (i : Int)) = true := decide_eq_true (by omega)
    clear hb hT hK he hs hc hlen FK h7 hi h1
    go_enter Try.func29, Try.ntmps29
    go_wp2_with (first | (refine li_load 0 30 rfl rfl rfl HO rfl rfl (by kernel_rfl) ?_) | (go_at_call 32; refine FT.out.mono ?_; rintro e w2 ⟨rfl, rfl⟩))
    go_ret
    exact ⟨rfl, HRW.out⟩
  | none =>
    have h1 : idxI s.trial k = -1 := by unfold idxI; rw [hi]
    rw [h1] at FT
    cases hj : idx s.kept k with
    | some i =>
      have he : addE s k b = 7 := by unfold addE all; rw [if_neg hb, h7, hi, hj]; rfl
      have hs : add s k b = s := by unfold add; rw [he, if_neg (by decide)]
      have h2 : idxI s.kept k = (i : Int) := by unfold idxI; rw [hj]
      rw [h2] at FK
      rw [he, hs]
      have hd : decide ((0 : Int) ≤ (i : Int)) = true := decide_eq_true (by omega)
      clear hb hT hK he hs hc hlen h7 hi hj h1 h2
      go_enter Try.func29, Try.ntmps29
      go_wp2_with (refine li_load 0 30 rfl rfl rfl HO rfl rfl (by kernel_rfl) ?_)
      go_at_call 32; refine FT.out.mono ?_; rintro e w2 ⟨rfl, rfl⟩
      go_wp2_with (refine li_load 0 30 rfl rfl rfl HO rfl rfl (by kernel_rfl) ?_)
      go_at_call 32; refine FK.out.mono ?_; rintro e w2 ⟨rfl, rfl⟩
      go_wp2_with (fail)
      go_ret
      exact ⟨rfl, HRW.out⟩
    | none =>
      have he : addE s k b = 0 := by unfold addE all; rw [if_neg hb, h7, hi, hj]; rfl
      have hs : add s k b = { s with trial := s.trial ++ [(k, b)] } := by unfold add; rw [he, if_pos rfl]
      have h2 : idxI s.kept k = -1 := by unfold idxI; rw [hj]
      rw [h2] at FK
      rw [he, hs]
      have hmx : maxLen = 9223372036854775807 := rfl
      obtain ⟨aoT, cT, hvT, _, _, _⟩ := hT.rd HO (fun x hx => by simp [hx])
      have HT := Lib.hid hT
      have HK := Lib.hid hK
      have NT := Lib.hid (show ∀ w' A, Own w0 w' (A ++ ((m, CellsP 32 [.int .i64 s.most, vt, vk]) :: (Et ++ (Ek ++ L)))) → ∀ j u, (s.trial.flatMap c2)[j]? = some u → ∃ ad, aoT = some ad ∧ w'.cell? (ad.add j) = some u from fun w' A H => hT.news hvT H (fun x hx => by simp [hx]))
      obtain ⟨A, hA⟩ : ∃ A, s.trial.length = A := ⟨_, rfl⟩
      rw [hA] at hvT hlen
      subst hvT
      have LA := Lib.hid (show (s.trial.flatMap c2).length = A * 2 by rw [flat2_len, hA])
      have H1 := Lib.hid (show 0 + A ≤ maxLen by omega)
      have H2 := Lib.hid (show (0 + A) * 16 ≤ 140737488355328 by omega)
      have H3 := Lib.hid (show A + 1 ≤ maxLen by omega)
      have H4 := Lib.hid (show (A + 1) * 16 ≤ 140737488355328 by omega)
      have L0 := Lib.hid (show ([] ++ s.trial.flatMap c2).length = A * 2 by rw [List.nil_append, flat2_len, hA])
      have HA := Lib.hid (show (s.trial ++ [(k, b)]).length = A + 1 by rw [List.length_append, hA]; simp)
      clear hb hT hK he hs hc hlen h7 hi hj h1 h2 hA hmx
      go_enter Try.func29, Try.ntmps29
      go_wp2_with (refine li_load 0 30 rfl rfl rfl HO rfl rfl (by kernel_rfl) ?_)
      go_at_call 32; refine FT.out.mono ?_; rintro e w2 ⟨rfl, rfl⟩
      go_wp2_with (refine li_load 0 30 rfl rfl rfl HO rfl rfl (by kernel_rfl) ?_)
      go_at_call 32; refine FK.out.mono ?_; rintro e w2 ⟨rfl, rfl⟩
      clear FT FK
      go_wp2_with (first | (refine li_bslice 30 2 rfl rfl (by go_simp; rfl) rfl (by decide) HO ?_; clear HO; intro gn wn HO) | (with_reducible (refine gate_load 30 rfl ?_); refine li_load 1 30 rfl rfl rfl HO rfl rfl (by kernel_rfl) ?_) | (refine li_append_any 0 el30 rfl rfl (n := 0) (m := A) rfl HO rfl rfl rfl (news := s.trial.flatMap c2) LA.out (NT.out _ [_] HO) (c2_one _) H1.out H2.out ?_; clear HO; intro gq cq wq hcq HO; simp only [List.eraseIdx_cons_zero] at HO) | (refine li_append_row1 0 el30 rfl rfl rfl HO rfl L0.out rfl rfl rfl (by decide) H3.out H4.out ?_; clear HO; intro gr cr wr hcr HO; simp only [List.eraseIdx_cons_zero] at HO) | (with_reducible (refine gate_store 30 rfl ?_); refine li_storeSlice 1 30 rfl rfl rfl rfl HO rfl rfl (by simp) (by kernel_rfl) ?_; clear HO; intro ws HO; simp only [List.set_cons_zero, List.set_cons_succ] at HO))
      go_ret
      refine ⟨rfl, .slice (some ⟨gr, 0, none⟩) (A + 1) cr, vk, [_], Ek, ?_, HK.out, own_rT HO⟩
      rw [flat_snoc, ← HA.out]
      exact .row (s.trial ++ [(k, b)]) gr cr rfl
end Go.Proofs.Ytkkgajlddlnghaa

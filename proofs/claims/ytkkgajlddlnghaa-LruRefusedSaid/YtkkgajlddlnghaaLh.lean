/- The list's calls by their contracts: New, Add, Drop, Touch. -/
import Derived.Test.YtkkgajlddlnghaaLg
namespace Go.Proofs.Ytkkgajlddlnghaa
set_option linter.unusedVariables false
set_option linter.unusedSimpArgs false
set_option linter.unnecessarySimpa false
open Go.RowKit Go.Proofs.YtkkgajlddlnghaaW.PrintLast Lr
set_option maxRecDepth 20000 in
set_option maxHeartbeats 4000000 in
theorem LNew_yes {w0 w : World} {L : List Ent} (m : Int) (HO : Own w0 w L) (h0 : 0 ≤ m) (h1 : m ≤ 1152921504606846976) :
    Calls Try.prog 11 #[.int .i64 m] w fun e w' => ∃ g, e = .returned (.tuple #[.pointer (some ⟨g, 0, none⟩), .int .i64 0]) ∧ Lw w0 w' L g 0 ⟨m, [], []⟩ := by
  have d1 : decide (m < 0) = false := decide_eq_false (by omega)
  have d2 : decide ((1152921504606846976 : Int) < m) = false := decide_eq_false (by omega)
  go_enter Try.func11, Try.ntmps11
  go_wp2_with (first | (refine li_makeMap (k := 2) (enc := encPtr) (z := .int .i64 0) rfl rfl encPtr_nil HO ?_; clear HO; intro mb wm HO) | (refine li_boxAgg 60 rfl rfl rfl HO ?_; clear HO; intro gb wb HO))
  obtain ⟨T, hT⟩ : ∃ T : Tab, [⟨gb, 60, [.int .i64 m, .int .i64 0, .int .i64 0, .bool false, .pointer none, .pointer none, .int .i64 0, .int .i64 0, .bool false, .pointer none, .pointer none, .map (some mb), .int .i64 0, .int .i64 0]⟩] = T := ⟨_, rfl⟩
  have HO1 : Own w0 wb (T.ents ++ (mb, Mp 0 (fun _ => .pointer none)) :: L) := by rw [← hT]; exact HO
  clear HO
  have t4 : T.get gb (1 + 3) = some (.pointer none) := by rw [← hT]; simp [Tab.get]
  have t5 : T.get gb (1 + 4) = some (.pointer none) := by rw [← hT]; simp [Tab.get]
  go_at_call 28; refine (start_any HO1 t4 t5).mono ?_; rintro e w2 ⟨rfl, HO2⟩
  clear HO1
  obtain ⟨T1, hT1⟩ : ∃ T1, (T.put gb (1 + 3) (ptr (gb, 1))).put gb (1 + 4) (ptr (gb, 1)) = T1 := ⟨_, rfl⟩
  rw [hT1] at HO2
  have t9 : T1.get gb (6 + 3) = some (.pointer none) := by rw [← hT1, ← hT]; simp [Tab.get, Tab.put]
  have t10 : T1.get gb (6 + 4) = some (.pointer none) := by rw [← hT1, ← hT]; simp [Tab.get, Tab.put]
  clear t4 t5
  go_wp2_with (fail)
  go_at_call 28; refine (start_any HO2 t9 t10).mono ?_; rintro e w3 ⟨rfl, HO3⟩
  clear HO2 t9 t10
  go_wp2_with (fail)
  go_ret2
  refine ⟨gb, rfl, _, mb, _, [], [], HO3, ?_, rfl, rfl⟩
  rw [← hT1, ← hT]
  refine ⟨?_, ?_, ?_, ?_, ?_, ?_, ?_, by simp, by simp, by simp, fun _ _ => rfl⟩
  · simp [Tab.get, Tab.put]
  · simp [Tab.get, Tab.put]
  · simp [Tab.get, Tab.put, kvs, sum]
  · simp [Tab.get, Tab.put, kvs, sum]
  · constructor <;> simp [Tab.get, Tab.put]
  · constructor <;> simp [Tab.get, Tab.put]
  · simp [ids]
set_option maxRecDepth 20000 in
theorem LNew_no {w : World} (m : Int) (h : m < 0 ∨ 1152921504606846976 < m) :
    Calls Try.prog 11 #[.int .i64 m] w fun e w' => e = .returned (.tuple #[.pointer none, .int .i64 1]) ∧ w = w' := by
  have H := Lib.hid h
  clear h
  go_enter Try.func11, Try.ntmps11
  go_wp2
  all_goals first | (exfalso; have := H.out; omega) | (go_ret2; exact ⟨rfl, rfl⟩)
namespace Lr
theorem isIn_iff {s : S} {tt kk : List Th} (ht : kvs tt = s.trial) (hk : kvs kk = s.kept) (k : Int) : (∀ x ∈ tt ++ kk, x.k ≠ k) ↔ isIn s k = false := by
  have e : kvs (tt ++ kk) = all s := by rw [kvs_app, ht, hk]; rfl
  have h := @idx_none k (all s)
  unfold isIn
  constructor
  · intro hx
    rw [h.2 fun v hv => ?_]; rfl
    rw [← e] at hv
    obtain ⟨x, hx', rfl⟩ := List.mem_map.1 hv
    exact hx x hx'
  · intro hi x hx
    have : idx (all s) k = none := by
      cases hc : idx (all s) k with
      | none => rfl
      | some i => rw [hc] at hi; cases hi
    exact h.1 this x.kv (by rw [← e]; exact List.mem_map.2 ⟨x, hx, rfl⟩)
end Lr
set_option maxRecDepth 20000 in
set_option maxHeartbeats 4000000 in
theorem LAdd_any {w0 w : World} {L : List Ent} {g n c : Nat} {s : S} (k b : Int) (HL : Lw w0 w L g n s) (K : Ok s c) (hc : c ≤ 100000) (hw : (Lit.int .i64 k).wf = true) (hn : n ≤ 1000000000) :
    Calls Try.prog 25 #[.pointer (some ⟨g, 0, none⟩), .int .i64 k, .int .i64 b] w fun e w' => e = .returned (.int .i64 (addE s k b)) ∧ Lw w0 w' L g (n + 1) (add s k b) := by
  obtain ⟨T, mb, F, tt, kk, HO, R, ht, hk⟩ := HL
  have HT := Lib.hid ht
  have HK := Lib.hid hk
  have HR := Lib.hid R
  have KO := Lib.hid K
  by_cases hb : b < 1 ∨ 1099511627776 < b
  · have he : addE s k b = 1 := by unfold addE; rw [if_pos hb]
    have hs : add s k b = s := by unfold add; rw [he, if_neg (by decide)]
    rw [he, hs]
    have H := Lib.hid hb
    have HO' : Own w0 w (T.ents ++ (mb, Mp (n + 1) F) :: L) := by
      have h1 : Own w0 w ((mb, Mp n F) :: (T.ents ++ L)) := HO.perm List.perm_middle
      exact (h1.mapMono (Nat.le_succ n)).perm List.perm_middle.symm
    clear hb HO R K ht hk
    go_enter Try.func25, Try.ntmps25
    go_wp2
    all_goals first | (exfalso; have := H.out; omega) | (go_ret; exact ⟨rfl, T, mb, F, tt, kk, HO', HR.out, HT.out, HK.out⟩)
  have d1 : decide (b < 1) = false := decide_eq_false (by omega)
  have d2 : decide ((1099511627776 : Int) < b) = false := decide_eq_false (by omega)
  have cm := R.at_
  rcases lookF R k with ⟨x, hx, hxk, hF⟩ | ⟨hne, hF⟩
  · have hi : isIn s k = true := by
      cases hc : isIn s k with
      | true => rfl
      | false => exact absurd hxk ((isIn_iff ht hk k).2 hc x hx)
    have he : addE s k b = 7 := by unfold addE; rw [if_neg hb]; unfold isIn at hi; rw [if_pos hi]
    have hs : add s k b = s := by unfold add; rw [he, if_neg (by decide)]
    rw [he, hs]
    have HO' : Own w0 w (T.ents ++ (mb, Mp (n + 1) F) :: L) := by
      have h1 : Own w0 w ((mb, Mp n F) :: (T.ents ++ L)) := HO.perm List.perm_middle
      exact (h1.mapMono (Nat.le_succ n)).perm List.perm_middle.symm
    have hF' : F k = .pointer (some ⟨x.b, 0, none⟩) := hF
    clear hb R K ht hk hF hi he hs hx hxk
    go_enter Try.func25, Try.ntmps25
    go_wp2_with (first | (refine li_loadT 53 rfl rfl rfl HO cm (by kernel_rfl) ?_) | (refine li_look _ rfl rfl rfl rfl HO (tab_mid _ _ _) encPtr_inj K2 Try.underlying2 Try.underlying53 (zero54 _) encPtr_nil hw hF' ?_))
    go_ret
    exact ⟨rfl, T, mb, F, tt, kk, HO', HR.out, HT.out, HK.out⟩
  · have hi : isIn s k = false := (isIn_iff ht hk k).1 hne
    have he : addE s k b = 0 := by unfold addE; rw [if_neg hb]; unfold isIn at hi; rw [if_neg (by simp [hi])]
    have hs : add s k b = { s with trial := s.trial ++ [(k, b)] } := by unfold add; rw [if_pos he]
    rw [he, hs]
    have HNE := Lib.hid hne
    have hB := Lib.hid (Bd.of_ok K (by omega) ht hk)
    have hcnt := K.len
    have hBB := Lib.hid hb
    have hcnt2 : (all s).length = (tt ++ kk).length := by
      have e : kvs (tt ++ kk) = all s := by rw [kvs_app, ht, hk]; rfl
      rw [← e]; simp [kvs]
    have HC := Lib.hid (show (tt ++ kk).length ≤ 100000 by omega)
    have hn' := Lib.hid (show n < maxLen by unfold maxLen; omega)
    have HW := Lib.hid hw
    clear hb R K ht hk hi he hs hne hcnt hcnt2
    go_enter Try.func25, Try.ntmps25
    go_wp2_with (first | (refine li_loadT 53 rfl rfl rfl HO cm (by kernel_rfl) ?_) | (refine li_look _ rfl rfl rfl rfl HO (tab_mid _ _ _) encPtr_inj K2 Try.underlying2 Try.underlying53 (zero54 _) encPtr_nil hw hF ?_) | (refine li_boxAgg 56 rfl rfl rfl HO ?_; clear HO; intro gb wb HO))
    have hfr := HO.tabFresh
    have hg : gb ≠ g := fun e => hfr (by rw [e]; exact Tab.get_id HR.out.room)
    have hids : gb ∉ ids (tt ++ kk) := fun hm => by
      obtain ⟨y, hy, e⟩ := List.mem_map.1 hm
      rcases List.mem_append.1 hy with hy | hy
      · exact hfr (by rw [← e]; exact Tab.get_id (HR.out.ct y hy).1)
      · exact hfr (by rw [← e]; exact Tab.get_id (HR.out.ck y hy).1)
    have R1 := HR.out.cons ⟨gb, 56, [.int .i64 k, .int .i64 b, .bool false, .pointer none, .pointer none]⟩ hg hids
    have LO : Loose (⟨gb, 56, [.int .i64 k, .int .i64 b, .bool false, .pointer none, .pointer none]⟩ :: T) ⟨gb, k, b⟩ false := ⟨by simp [Tab.get], by simp [Tab.get], by simp [Tab.get], ⟨_, by simp [Tab.get]; rfl⟩, ⟨_, by simp [Tab.get]; rfl⟩⟩
    have B2 : Bd (⟨gb, k, b⟩ :: (tt ++ kk)) := ⟨fun y hy => by
      rcases List.mem_cons.1 hy with rfl | hy
      · have := hBB.out; exact ⟨by simp only []; omega, by simp only []; omega, HW.out⟩
      · exact hB.out.by_ y hy, by have := HC.out; simp only [List.length_cons]; omega⟩
    go_at_call 35; refine (put_any (x := ⟨gb, k, b⟩) HO.tabCons R1 LO hg hids HNE.out B2 hn'.out).mono ?_; rintro e w3 ⟨rfl, T3, F3, HO3, R3⟩
    go_wp2_with (fail)
    go_ret
    exact ⟨rfl, T3, mb, F3, _, _, HO3, R3, by show kvs (tt ++ [_]) = s.trial ++ [(k, b)]; rw [kvs_app, HT.out]; rfl, HK.out⟩
end Go.Proofs.Ytkkgajlddlnghaa

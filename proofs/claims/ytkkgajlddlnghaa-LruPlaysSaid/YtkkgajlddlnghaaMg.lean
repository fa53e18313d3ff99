/- The document's list: Order. -/
import Derived.Test.YtkkgajlddlnghaaMf
namespace Go.Proofs.Ytkkgajlddlnghaa
set_option linter.unusedVariables false
set_option linter.unusedSimpArgs false
set_option linter.unnecessarySimpa false
open Go.RowKit Go.Proofs.YtkkgajlddlnghaaW.PrintLast Lr
theorem own_back {w0 w : World} {q m : Ent} {E F L : List Ent} (h : Own w0 w (q :: m :: (E ++ (F ++ L)))) : Own w0 w (m :: (E ++ (F ++ (q :: L)))) := by
  refine (h.perm (List.Perm.swap m q _)).perm (List.Perm.cons m ?_)
  rw [← List.append_assoc, ← List.append_assoc]
  exact List.perm_middle.symm
namespace Lr
def fk (l : List KV) : List Value := (l.map (·.1)).map iv
theorem fk_take (l : List KV) (i : Nat) (x : KV) (h : l[i]? = some x) : fk (l.take (i + 1)) = fk (l.take i) ++ [.int .i64 x.1] := by
  unfold fk
  rw [List.take_add_one, h]; simp [iv]
theorem fk_len (l : List KV) : (fk l).length = l.length := by simp [fk]
end Lr
set_option maxRecDepth 20000 in
set_option maxHeartbeats 8000000 in
theorem ROrder_any {w0 w : World} {L : List Ent} {m : Nat} {s : S} (HR : Rw w0 w L m s) (hc : (all s).length ≤ 100000) :
    Calls Try.prog 16 #[.pointer (some ⟨m, 0, none⟩)] w fun e w' => ∃ v E, e = .returned v ∧ IsP v (order s) E ∧ Rw w0 w' (E ++ L) m s := by
  obtain ⟨vt, vk, Et, Ek, hT, hK, HO⟩ := HR
  have hlen : s.trial.length + s.kept.length ≤ 100000 := by unfold all at hc; simp at hc; omega
  have hmx : maxLen = 9223372036854775807 := rfl
  obtain ⟨aoT, cT, hvT, _, _, _⟩ := hT.rd HO (fun x hx => by simp [hx])
  obtain ⟨aoK, cK, hvK, _, _, _⟩ := hK.rd HO (fun x hx => by simp [hx])
  have RT := Lib.hid (fun w' A (H : Own w0 w' (A ++ ((m, CellsP 32 [.int .i64 s.most, vt, vk]) :: (Et ++ (Ek ++ L))))) => hT.rd H (fun x hx => by simp [hx]))
  have RK := Lib.hid (fun w' A (H : Own w0 w' (A ++ ((m, CellsP 32 [.int .i64 s.most, vt, vk]) :: (Et ++ (Ek ++ L))))) => hK.rd H (fun x hx => by simp [hx]))
  have HT := Lib.hid hT
  have HK := Lib.hid hK
  obtain ⟨A, hA⟩ : ∃ A, s.trial.length = A := ⟨_, rfl⟩
  obtain ⟨B, hB⟩ : ∃ B, s.kept.length = B := ⟨_, rfl⟩
  rw [hA] at hvT hlen
  rw [hB] at hvK hlen
  subst hvT hvK
  have HA := Lib.hid hA
  have HB := Lib.hid hB
  clear hT hK hc hA hB
  go_enter Try.func16, Try.ntmps16
  go_wp2_with (refine li_bslice 37 1 rfl rfl (by go_simp; rfl) rfl (by decide) HO ?_; clear HO; intro g0 w1 HO)
  go_loopg [3, 4] A (fun q vo vi wr => ∃ (i gr cr : Nat), vi = .int .i64 (i : Int) ∧ i ≤ A ∧ q = A - i ∧ vo = .slice (some ⟨gr, 0, none⟩) i cr ∧ Own w0 wr ((gr, RowP 2 1 cr (fk (s.trial.take i))) :: (m, CellsP 32 [.int .i64 s.most, .slice aoT A cT, .slice aoK B cK]) :: (Et ++ (Ek ++ L))))
  case atStart => exact ⟨0, g0, 0, by rfl, by omega, by omega, rfl, HO⟩
  case round =>
    clear HO
    obtain ⟨i, gr, cr, rfl, i1, hq, rfl, HO⟩ := hrel
    rcases Nat.lt_or_ge i A with hi | hi
    · have hd : decide ((i : Int) < (A : Int)) = true := decide_eq_true (by omega)
      have hwi : IntKind.i64.wrap ((i : Int) + 1) = ((i + 1 : Nat) : Int) := by rw [IntWalk.i64_in _ (by omega)]; rfl
      have hb0 : (0 : Int) ≤ (i : Int) := by omega
      have hb1 : (i : Int) < (A : Int) := by omega
      obtain ⟨x, hx⟩ : ∃ x, s.trial[i]? = some x := ⟨_, List.getElem?_eq_getElem (by rw [HA.out]; exact hi)⟩
      obtain ⟨_, _, hv, _, _, hcell⟩ := RT.out _ [_] HO
      injection hv with e1 e2 e3
      subst e1
      obtain ⟨gx, rfl, c0, _⟩ := hcell i x hx
      have HF := Lib.hid (fk_take _ i x hx)
      have hfl : (fk (s.trial.take i)).length = i * 1 := by rw [fk_len, List.length_take, HA.out]; omega
      have HFL := Lib.hid hfl
      have H1 := Lib.hid (show i + 1 ≤ maxLen by omega)
      have H2 := Lib.hid (show (i + 1) * 8 ≤ 140737488355328 by omega)
      clear hcell hx hfl e2 e3
      go_wp2_with (first | (with_reducible (refine gate_load 30 rfl ?_); refine li_load 1 30 rfl rfl rfl HO rfl rfl (by kernel_rfl) ?_) | (refine li_loadAt 2 rfl rfl rfl c0 (by kernel_rfl) ?_) | (refine li_bsliceInt 37 2 el37 rfl rfl rfl HO ?_; clear HO; intro gs wb HO) | (refine li_append_row1 0 el37 rfl rfl rfl HO rfl HFL.out rfl rfl rfl (by decide) H1.out H2.out ?_; clear HO; intro gm cm wm hcm HO; simp only [List.eraseIdx_cons_zero] at HO))
      go_roundg (A - (i + 1))
      case measure => omega
      case rel => exact ⟨i + 1, gm, cm, rfl, by omega, rfl, rfl, by rw [HF.out]; exact HO⟩
    · obtain rfl : i = A := by omega
      have hd : decide ((i : Int) < (i : Int)) = false := by simp
      rw [List.take_of_length_le (by rw [HA.out]; omega)] at HO
      have HO' : Own w0 wr ((gr, RowP 2 1 cr (fk s.trial ++ fk (s.kept.take 0))) :: (m, CellsP 32 [.int .i64 s.most, .slice aoT i cT, .slice aoK B cK]) :: (Et ++ (Ek ++ L))) := by simpa [fk] using HO
      go_wp2_with (with_reducible (refine gate_load 30 rfl ?_); refine li_load 1 30 rfl rfl rfl HO rfl rfl (by kernel_rfl) ?_)
      clear HO
      have HO := HO'
      clear HO'
      go_loopg [3, 5] B (fun q vo vi wr => ∃ (j gr cr : Nat), vi = .int .i64 (j : Int) ∧ j ≤ B ∧ q = B - j ∧ vo = .slice (some ⟨gr, 0, none⟩) (i + j) cr ∧ Own w0 wr ((gr, RowP 2 1 cr (fk s.trial ++ fk (s.kept.take j))) :: (m, CellsP 32 [.int .i64 s.most, .slice aoT i cT, .slice aoK B cK]) :: (Et ++ (Ek ++ L))))
      case atStart => exact ⟨0, gr, cr, by rfl, by omega, by omega, rfl, HO⟩
      case round =>
        clear HO gr cr
        obtain ⟨j, gr, cr, rfl, j1, hq, rfl, HO⟩ := hrel
        rcases Nat.lt_or_ge j B with hj | hj
        · have hd2 : decide ((j : Int) < (B : Int)) = true := decide_eq_true (by omega)
          have hwi : IntKind.i64.wrap ((j : Int) + 1) = ((j + 1 : Nat) : Int) := by rw [IntWalk.i64_in _ (by omega)]; rfl
          have hb0 : (0 : Int) ≤ (j : Int) := by omega
          have hb1 : (j : Int) < (B : Int) := by omega
          obtain ⟨x, hx⟩ : ∃ x, s.kept[j]? = some x := ⟨_, List.getElem?_eq_getElem (by rw [HB.out]; exact hj)⟩
          obtain ⟨_, _, hv, _, _, hcell⟩ := RK.out _ [_] HO
          injection hv with e1 e2 e3
          subst e1
          obtain ⟨gx, rfl, c0, _⟩ := hcell j x hx
          have HF := Lib.hid (fk_take _ j x hx)
          have hfl : (fk s.trial ++ fk (s.kept.take j)).length = (i + j) * 1 := by rw [List.length_append, fk_len, fk_len, List.length_take, HA.out, HB.out]; omega
          have HFL := Lib.hid hfl
          have H1 := Lib.hid (show i + j + 1 ≤ maxLen by omega)
          have H2 := Lib.hid (show (i + j + 1) * 8 ≤ 140737488355328 by omega)
          clear hcell hx hfl e2 e3 hd
          go_wp2_with (first | (with_reducible (refine gate_load 30 rfl ?_); refine li_load 1 30 rfl rfl rfl HO rfl rfl (by kernel_rfl) ?_) | (refine li_loadAt 2 rfl rfl rfl c0 (by kernel_rfl) ?_) | (refine li_bsliceInt 37 2 el37 rfl rfl rfl HO ?_; clear HO; intro gs wb HO) | (refine li_append_row1 0 el37 rfl rfl rfl HO rfl HFL.out rfl rfl rfl (by decide) H1.out H2.out ?_; clear HO; intro gm cm wm hcm HO; simp only [List.eraseIdx_cons_zero] at HO))
          go_roundg (B - (j + 1))
          case measure => omega
          case rel => exact ⟨j + 1, gm, cm, rfl, by omega, rfl, by rw [Nat.add_assoc], by rw [HF.out, ← List.append_assoc]; exact HO⟩
        · obtain rfl : j = B := by omega
          have hd2 : decide ((j : Int) < (j : Int)) = false := by simp
          rw [List.take_of_length_le (by rw [HB.out]; omega)] at HO
          go_wp2_with (with_reducible (refine gate_load 30 rfl ?_); refine li_load 1 30 rfl rfl rfl HO rfl rfl (by kernel_rfl) ?_)
          go_ret
          have e : fk s.trial ++ fk s.kept = (order s).map iv := by unfold fk order all; rw [← List.map_append, ← List.map_append]
          rw [e] at HO
          have el : i + j = (order s).length := by unfold order all; rw [List.length_map, List.length_append, HA.out, HB.out]
          exact ⟨_, [_], rfl, by rw [show ({ tmps := _, defers := _ } : Act).tmps.getD 2 undef = Value.slice (some ⟨gr, 0, none⟩) (i + j) cr from rfl, el]; exact .row (order s) gr cr rfl, _, _, Et, Ek, HT.out, HK.out, own_back HO⟩
end Go.Proofs.Ytkkgajlddlnghaa

/- What was flushed, and not written since, is there behind any Cut. -/
import Derived.Test.YtbgjfdeolckljaaDs
namespace Go.Proofs.Ytbgjfdeolckljaa
set_option linter.unusedVariables false
set_option linter.unusedSimpArgs false
set_option linter.unnecessarySimpa false
open Go.RowKit Go.Proofs.YtbgjfdeolckljaaW.PrintLast
structure ActD where
  kind : Int
  n : Int
  torn : Int
  b : Dk.Byte
  ka : Option Addr
  kn : Nat
  kc : Nat
def actD (a : ActD) : List Value := [.int .i64 a.kind, .int .i64 a.n, .int .i64 a.torn, .int .u8 (a.b.toNat : Int), .slice a.ka a.kn a.kc]
def boolRow (b : Bool) : List Value := [.bool b]
theorem Kb_of {w : World} {v : Value} {l : List Bool} (h : ArgS w 1 v (l.map boolRow)) : Kb w v l := by
  obtain ⟨ao, cap, rfl, h1, h2, h3⟩ := h
  refine ⟨ao, cap, by simp, by simp at h1; omega, fun i b hb => ?_⟩
  obtain ⟨a, e, hc⟩ := h3 i (boolRow b) (by simp [hb])
  have := hc 0 (.bool b) rfl
  exact ⟨a, e, by simpa [Addr.add] using this⟩
theorem u64_tmod (n : Int) : ∃ (U m : Nat), IntKind.u64.wrap n = (U : Int) ∧ (U : Int).tmod 6 = (m : Int) ∧ m < 6 := by
  have h : 0 ≤ IntKind.u64.wrap n ∧ IntKind.u64.wrap n < 18446744073709551616 := by
    have e : IntKind.u64.wrap n = n % 18446744073709551616 := by simp [IntKind.wrap, IntKind.signed, IntKind.bits]
    rw [e]
    exact ⟨Int.emod_nonneg _ (by decide), Int.emod_lt_of_pos _ (by decide)⟩
  refine ⟨(IntKind.u64.wrap n).toNat, (IntKind.u64.wrap n).toNat % 6, by omega, ?_, Nat.mod_lt _ (by decide)⟩
  rw [Int.tmod_eq_emod_of_nonneg (by omega)]
  omega
set_option maxRecDepth 20000 in
set_option maxHeartbeats 16000000 in
theorem DiskLasts_any (v v2 : Value) (t : Int) (acts : List ActD) (keep : List Bool) (w : World) (ha : ArgS w 5 v (acts.map actD)) (ha2 : ArgS w 1 v2 (keep.map boolRow)) :
    Calls Try.prog 3 #[v, v2, .int .i64 t] w fun e w' => e = .returned (.bool true) ∧ Below w.heap.size w w' := by
  have HO := Own.nil w
  have hkb := Kb_of ha2
  obtain ⟨ao, cap, rfl, _, _, hrd⟩ := ha
  rw [List.length_map]
  obtain ⟨N, hN⟩ : ∃ N, acts.length = N := ⟨_, rfl⟩
  rw [hN]
  obtain ⟨aok, capk, rfl, _, _⟩ := ha2
  rw [List.length_map]
  rw [List.length_map] at hkb
  obtain ⟨NK, hNK⟩ : ∃ N, keep.length = N := ⟨_, rfl⟩
  rw [hNK] at hkb ⊢
  have HN := Lib.hid hN
  have HNK := Lib.hid hNK
  have HRD := Lib.hid hrd
  have HKB := Lib.hid hkb
  clear hN hrd hkb hNK
  by_cases h30 : 30 < N
  · have hd : decide ((30 : Int) < (N : Int)) = true := decide_eq_true (by omega)
    clear h30
    go_enter Try.func3, Try.ntmps3
    go_wp2_with (fail)
    go_at_call 9; refine (alive_any HO).mono ?_; rintro e w2 ⟨rfl, HO1⟩
    go_wp2_with (fail)
    go_ret
    exact ⟨rfl, HO1.below⟩
  have hd : decide ((30 : Int) < (N : Int)) = false := decide_eq_false (by omega)
  have H30 := Lib.hid (show N ≤ 30 by omega)
  clear h30
  by_cases h60 : 60 < NK
  · have hd2 : decide ((60 : Int) < (NK : Int)) = true := decide_eq_true (by omega)
    clear h60
    go_enter Try.func3, Try.ntmps3
    go_wp2_with (fail)
    go_at_call 9; refine (alive_any HO).mono ?_; rintro e w2 ⟨rfl, HO1⟩
    go_wp2_with (fail)
    go_ret
    exact ⟨rfl, HO1.below⟩
  have hd2 : decide ((60 : Int) < (NK : Int)) = false := decide_eq_false (by omega)
  have H60 := Lib.hid (show NK ≤ 60 by omega)
  clear h60
  go_enter Try.func3, Try.ntmps3
  go_wp2_with (fail)
  go_at_call 9; refine (alive_any HO).mono ?_; rintro e w2 ⟨rfl, HO1⟩
  clear HO
  go_wp2_with (fail)
  go_at_call 10; refine (DNew_yes 6 16 HO1 (by decide) (by decide) (by decide) (by decide)).mono ?_; rintro e w1 ⟨g, E, rfl, hD, HO⟩
  clear HO1
  have HD := Lib.hid hD
  clear hD
  go_wp2_with (refine li_alloc (t := 29) rfl rfl (z := .agg #[.int .i64 0, .int .i64 0, .int .i64 0, .int .i64 0, .int .i64 0, .int .i64 0]) (cs := [.int .i64 0, .int .i64 0, .int .i64 0, .int .i64 0, .int .i64 0, .int .i64 0]) (by kernel_rfl) rfl HO ?_; clear HO; intro gw ww HO)
  have HI0 := Lib.hid Dk.inv_new
  have HO1 : Own w ww ((gw, CellsP 29 (Dk.wv (List.replicate 6 0))) :: (E ++ [])) := HO
  clear HO
  go_loopg [34] N (fun q x wr => ∃ (i : Nat) (D : Dk.Disk) (E : List Ent) (want : List Int), x = .int .i64 (i : Int) ∧ i ≤ N ∧ q = N - i ∧ Hid (Dk.DkP g D E) ∧ Hid (Dk.Inv D want) ∧ Hid (D.waits.length ≤ i) ∧ Own w wr ((gw, CellsP 29 (Dk.wv want)) :: (E ++ [])))
  case atStart => exact ⟨0, _, E, _, by rfl, by omega, by omega, HD, HI0, Lib.hid (Nat.le_refl _), HO1⟩
  case round =>
    clear HO1 HD HI0 E
    obtain ⟨i, D, E, want, rfl, i1, hq, hD, hI, hwl, HO⟩ := hrel
    rcases Nat.lt_or_ge i N with hi | hi
    · have hdi : decide ((i : Int) < (N : Int)) = true := decide_eq_true (by omega)
      have hwi : IntKind.i64.wrap ((i : Int) + 1) = ((i + 1 : Nat) : Int) := by rw [IntWalk.i64_in _ (by have := H30.out; omega)]; rfl
      have hb0 : (0 : Int) ≤ (i : Int) := by omega
      have hb1 : (i : Int) < (N : Int) := by omega
      obtain ⟨⟨ki, n, tn, b, ka, kn, kc⟩, hact⟩ : ∃ p, acts[i]? = some p := ⟨_, List.getElem?_eq_getElem (by rw [HN.out]; exact hi)⟩
      obtain ⟨ad, rfl, hcell⟩ := HRD.out i (actD ⟨ki, n, tn, b, ka, kn, kc⟩) (by simp [hact])
      have HC := Lib.hid (show ∀ (j : Nat) x, ([.int .i64 ki, .int .i64 n, .int .i64 tn, .int .u8 (b.toNat : Int), .slice ka kn kc] : List Value)[j]? = some x → w.cell? ((ad.add (i * 5)).add j) = some x from hcell)
      obtain ⟨U, m, hU, hm, hm6⟩ := u64_tmod n
      have hwm : IntKind.i64.wrap (m : Int) = (m : Int) := IntWalk.i64_in _ (by omega)
      have HM6 := Lib.hid hm6
      have HI := Lib.hid hi
      have HQ := Lib.hid hq
      have hbl := b.isLt
      obtain ⟨X, hX⟩ : ∃ X : Int, (b.toNat : Int) = X := ⟨_, rfl⟩
      have HX := Lib.hid hX
      rw [hX] at HC
      have hX0 : 0 ≤ X := by omega
      have hX1 : X < 256 := by omega
      have hmb0 : (0 : Int) ≤ (m : Int) := by omega
      have hmb1 : (m : Int) < 6 := by omega
      clear hact hcell hi hq hm6 hX hbl
      by_cases hk1 : ki = 1
      · have hkk : (ki == 1) = true := by simp [hk1]
        clear hk1
        go_wp2_with (first | (refine li_loadAggAt 31 5 (vs := [.int .i64 ki, .int .i64 n, .int .i64 tn, .int .u8 X, .slice ka kn kc]) rfl rfl rfl (fun j x hj => HO.old (HC.out j x hj)) rfl (by kernel_rfl) (by kernel_rfl) (by kernel_rfl) ?_) | (refine li_alloc (t := 31) rfl rfl (z := .agg #[.int .i64 0, .int .i64 0, .int .i64 0, .int .u8 0, .slice none 0 0]) (cs := [.int .i64 0, .int .i64 0, .int .i64 0, .int .u8 0, .slice none 0 0]) (by kernel_rfl) rfl HO ?_; clear HO; intro ga wa HO) | (refine li_storeAgg 0 31 rfl rfl rfl rfl HO rfl rfl rfl rfl (by kernel_rfl) ?_; clear HO; intro ws HO; simp only [List.set_cons_zero] at HO) | (refine li_load 0 3 rfl rfl rfl HO rfl rfl (by kernel_rfl) ?_))
        have HOf : Own w ws (E ++ ([(gw, CellsP 29 (Dk.wv want))] ++ [])) := Own.mid (A := [_]) HO.tail
        clear HO
        go_at_call 11; refine (Flush_ok hI.out.ok hD.out HOf hI.out.off).mono ?_; rintro e w5 ⟨rfl, E5, hD5, HO5⟩
        have HD5 := Lib.hid hD5
        have HO : Own w w5 ((gw, CellsP 29 (Dk.wv (Dk.decs want 0))) :: (E5 ++ [])) := by
          have : Dk.decs want 0 = want := by simp [Dk.decs]
          rw [this]; exact Own.mid (A := E5) (B := [_]) HO5
        clear HOf HO5 hD5 hD
        go_wp2_with (fail)
        go_loopg [48] 6 (fun q x wr => ∃ (j : Nat), x = .int .i64 (j : Int) ∧ j ≤ 6 ∧ q = 6 - j ∧ Own w wr ((gw, CellsP 29 (Dk.wv (Dk.decs want j))) :: (E5 ++ [])))
        case atStart => exact ⟨0, by rfl, by omega, by omega, HO⟩
        case round =>
          clear HO
          obtain ⟨j, rfl, j1, hq, HO⟩ := hrel
          rcases Nat.lt_or_ge j 6 with hj | hj
          · have hdj : decide ((j : Int) < 6) = true := decide_eq_true (by omega)
            have hwj : IntKind.i64.wrap ((j : Int) + 1) = ((j + 1 : Nat) : Int) := by rw [IntWalk.i64_in _ (by omega)]; rfl
            have hj0 : (0 : Int) ≤ (j : Int) := by omega
            have hj1 : (j : Int) < 6 := by omega
            obtain ⟨x, hx⟩ : ∃ x, want[j]? = some x := ⟨_, List.getElem?_eq_getElem (by rw [hI.out.len]; exact hj)⟩
            have hx2 := hI.out.each j x hx
            have hg := Lib.hid (Dk.wv_get (Dk.decs_get hx))
            have hlen := Lib.hid (show j + 1 ≤ (Dk.wv (Dk.decs want j)).length by
              rw [Dk.wv_len]; unfold Dk.decs; rw [List.length_append, List.length_map, List.length_take, List.length_drop, hI.out.len]; omega)
            have HJ := Lib.hid hj
            have HQJ := Lib.hid hq
            by_cases hth : 1000 ≤ x
            · have hdx : decide (1000 ≤ x) = true := decide_eq_true hth
              have hwx : IntKind.i64.wrap (x - 1000) = x - 1000 := IntWalk.i64_in _ (by omega)
              have hs := Lib.hid (show (Dk.wv (Dk.decs want j)).set j (.int .i64 (x - 1000)) = Dk.wv (Dk.decs want (j + 1)) by
                rw [Dk.wv_set, ← Dk.decs_set hx]; unfold Dk.dec; rw [if_pos hth])
              clear hx hx2 hth hj hq
              go_wp2_with (first | (refine li_load 0 3 rfl rfl (off := j) rfl HO rfl hg.out (by kernel_rfl) ?_) | (refine li_storeInt 0 3 rfl rfl rfl (off := j) rfl HO rfl rfl hlen.out (by kernel_rfl) ?_; clear HO; intro ws2 HO; simp only [List.set_cons_zero] at HO; rw [hs.out] at HO))
              go_roundg (6 - (j + 1))
              case measure => have := HJ.out; have := HQJ.out; omega
              case rel => exact ⟨j + 1, rfl, by have := HJ.out; omega, rfl, HO⟩
            · have hdx : decide (1000 ≤ x) = false := decide_eq_false hth
              have hs := Lib.hid (Dk.decs_same hx (by unfold Dk.dec; rw [if_neg hth]))
              clear hx hx2 hth hj hq
              go_wp2_with (refine li_load 0 3 rfl rfl (off := j) rfl HO rfl hg.out (by kernel_rfl) ?_)
              go_roundg (6 - (j + 1))
              case measure => have := HJ.out; have := HQJ.out; omega
              case rel => exact ⟨j + 1, rfl, by have := HJ.out; omega, rfl, by rw [hs.out]; exact HO⟩
          · obtain rfl : j = 6 := by omega
            have hdj : decide (((6 : Nat) : Int) < 6) = false := by decide
            rw [Dk.decs_all want 6 (by rw [hI.out.len]; decide)] at HO
            have HI5 := Lib.hid (Dk.inv_flushed hI.out)
            go_wp2_with (fail)
            go_roundg (N - (i + 1))
            case measure => have := HI.out; have := HQ.out; omega
            case rel => exact ⟨i + 1, _, E5, _, rfl, by have := HI.out; omega, rfl, HD5, HI5, Lib.hid (by simp [Dk.flushed]), HO⟩
      · have hkk : (ki == 1) = false := by simp [hk1]
        have hsz := hI.out.size
        have HW := Lib.hid (fun (w' : World) (L : List Ent) (a : Addr) (c : Nat) (H : Own w w' (E ++ L)) (h : Bs w' (.slice (some a) D.size c) (List.replicate 16 b)) => Write_ok m hI.out.ok hD.out H (by rw [hI.out.six]; exact HM6.out) hI.out.off h)
        rw [hsz] at HW
        have HF := Lib.hid (fun (w' : World) (L : List Ent) (H : Own w w' L) => filled_any 16 b H (by decide))
        rw [HX.out] at HF
        have hwx : IntKind.i64.wrap X = X := IntWalk.i64_in _ (by omega)
        have hwx2 : IntKind.i64.wrap (1000 + X) = 1000 + X := IntWalk.i64_in _ (by omega)
        have hs := Lib.hid (show (Dk.wv want).set m (.int .i64 (1000 + X)) = Dk.wv (want.set m (1000 + X)) from Dk.wv_set _ _ _)
        have hlen := Lib.hid (show m + 1 ≤ (Dk.wv want).length by rw [Dk.wv_len, hI.out.len]; have := HM6.out; omega)
        have HIW := Lib.hid (fun gb cb => Dk.inv_wrote (g := gb) (c := cb) hI.out HM6.out b (by have := hwl.out; have := H30.out; have := HI.out; omega))
        rw [HX.out] at HIW
        have HWL := Lib.hid (show D.waits.length + 1 ≤ i + 1 by have := hwl.out; omega)
        clear hk1 hsz
        go_wp2_with (first | (refine li_loadAggAt 31 5 (vs := [.int .i64 ki, .int .i64 n, .int .i64 tn, .int .u8 X, .slice ka kn kc]) rfl rfl rfl (fun j x hj => HO.old (HC.out j x hj)) rfl (by kernel_rfl) (by kernel_rfl) (by kernel_rfl) ?_) | (refine li_alloc (t := 31) rfl rfl (z := .agg #[.int .i64 0, .int .i64 0, .int .i64 0, .int .u8 0, .slice none 0 0]) (cs := [.int .i64 0, .int .i64 0, .int .i64 0, .int .u8 0, .slice none 0 0]) (by kernel_rfl) rfl HO ?_; clear HO; intro ga wa HO) | (refine li_storeAgg 0 31 rfl rfl rfl rfl HO rfl rfl rfl rfl (by kernel_rfl) ?_; clear HO; intro ws HO; simp only [List.set_cons_zero] at HO) | (refine li_load 0 3 rfl rfl rfl HO rfl rfl (by kernel_rfl) ?_) | (refine li_load 0 5 rfl rfl rfl HO rfl rfl (by kernel_rfl) ?_))
        go_at_call 13; refine (HF.out _ _ HO).mono ?_; rintro e w5 ⟨g1, rfl, HO5⟩
        clear HO
        have HB : Bs w5 (.slice (some ⟨g1, 0, none⟩) 16 16) (List.replicate 16 b) := Bs_head HO5 (by simp)
        have HOf : Own w w5 (E ++ ([(g1, RowP 5 1 16 (Dk.bys (List.replicate 16 b))), (ga, CellsP 31 [.int .i64 ki, .int .i64 n, .int .i64 tn, .int .u8 X, .slice ka kn kc]), (gw, CellsP 29 (Dk.wv want))] ++ [])) := Own.mid (A := [_, _, _]) HO5
        clear HO5
        go_wp2_with (fail)
        go_at_call 12; refine (HW.out _ _ _ _ HOf HB).mono ?_; rintro e w6 ⟨rfl, gb, cb, E6, hD6, HO6⟩
        have HD6 := Lib.hid hD6
        have HO : Own w w6 ((ga, CellsP 31 [.int .i64 ki, .int .i64 n, .int .i64 tn, .int .u8 X, .slice ka kn kc]) :: (gw, CellsP 29 (Dk.wv want)) :: (E6 ++ [])) := (Own.mid (A := E6) (B := [_, _, _]) HO6).tail
        clear HOf HB HO6 hD6 hD HW HF
        go_wp2_with (first | (refine li_load 0 5 rfl rfl rfl HO rfl rfl (by kernel_rfl) ?_) | (refine li_storeInt 1 3 rfl rfl rfl (off := m) rfl HO rfl rfl hlen.out (by kernel_rfl) ?_; clear HO; intro ws2 HO; simp only [List.set_cons_zero, List.set_cons_succ] at HO; rw [hs.out] at HO))
        go_roundg (N - (i + 1))
        case measure => have := HI.out; have := HQ.out; omega
        case rel => exact ⟨i + 1, _, E6, _, rfl, by have := HI.out; omega, rfl, HD6, Lib.hid (HIW.out gb cb), Lib.hid (by simp only [Dk.wrote, List.length_append, List.length_singleton]; exact HWL.out), HO.tail⟩
    · obtain rfl : i = N := by omega
      have hdi : decide ((i : Int) < (i : Int)) = false := by simp
      have HCT := Lib.hid (fun (w' : World) (L : List Ent) (H : Own w w' (E ++ L)) => Cut_on t hI.out.ok hD.out H hI.out.off HKB.out (by rw [HNK.out]; have := H60.out; omega))
      have HKC := Lib.hid (Dk.on_ok (Dk.cut_ok hI.out.ok keep t))
      have hHO : Own w wr (E ++ ([(gw, CellsP 29 (Dk.wv want))] ++ [])) := Own.mid (A := [_]) HO
      clear HO
      go_wp2_with (fail)
      go_at_call 14; refine (HCT.out _ _ hHO).mono ?_; rintro e w5 ⟨rfl, E5, hD5, HO5⟩
      clear hHO
      go_wp2_with (fail)
      go_at_call 15; refine (On_any hD5 HO5).mono ?_; rintro e w6 ⟨rfl, E6, hD6, HO6⟩
      clear HO5 hD5
      go_wp2_with (fail)
      go_at_call 16; refine (Waits_any hD6 HO6).mono ?_; rw [show ({ Dk.cut D keep t with off := false } : Dk.Disk).waits = [] from rfl]; rintro e w7 ⟨rfl, rfl⟩
      have hlen6 : ({ Dk.cut D keep t with off := false } : Dk.Disk).lasts.length = 6 := by rw [← hI.out.six]; exact Dk.fl_len _ _
      have hsz6 : ({ Dk.cut D keep t with off := false } : Dk.Disk).size = 16 := hI.out.size
      have htold := Lib.hid (show ∀ n, n < 6 → Dk.lastW D.waits n = none → Dk.toldS { Dk.cut D keep t with off := false } n = Dk.toldS D n from fun n hn h => Dk.told_cut keep t (by rw [hI.out.six]; exact hn) h false)
      obtain ⟨D6, hD6e⟩ : ∃ D6, ({ Dk.cut D keep t with off := false } : Dk.Disk) = D6 := ⟨_, rfl⟩
      have hoff6 : D6.off = false := by rw [← hD6e]
      rw [hD6e] at hD6 HKC hlen6 hsz6 htold
      have HRD6 := Lib.hid (fun (n : Nat) (hn : n < 6) (w' : World) (H : Own w w' (E6 ++ ([(gw, CellsP 29 (Dk.wv want))] ++ []))) => Read_ok n HKC.out hD6 H (by rw [hlen6]; exact hn) hoff6)
      rw [hsz6] at HRD6
      have HSZ6 := Lib.hid hsz6
      have HO7 : Own w w6 ((gw, CellsP 29 (Dk.wv want)) :: (E6 ++ [])) := Own.mid (A := E6) (B := [_]) HO6
      have hwl6 := Lib.hid (show (Dk.wv want).length = 6 by rw [Dk.wv_len, hI.out.len])
      clear HO6 hD6 hlen6 hsz6 hoff6 hD6e HCT hD
      go_wp2_with (refine li_loadWhole 0 29 6 rfl rfl rfl HO7 rfl hwl6.out (by kernel_rfl) (by kernel_rfl) (by kernel_rfl) ?_)
      go_loopg [85] 6 (fun q x wr => ∃ (j : Nat), x = .int .i64 (j : Int) ∧ j ≤ 6 ∧ q = 6 - j ∧ Own w wr ((gw, CellsP 29 (Dk.wv want)) :: (E6 ++ [])))
      case atStart => exact ⟨0, by rfl, by omega, by omega, HO7⟩
      case round =>
        clear HO7
        obtain ⟨j, rfl, j1, hq, HO⟩ := hrel
        rcases Nat.lt_or_ge j 6 with hj | hj
        · have hdj : decide ((j : Int) < 6) = true := decide_eq_true (by omega)
          have hwj : IntKind.i64.wrap ((j : Int) + 1) = ((j + 1 : Nat) : Int) := by rw [IntWalk.i64_in _ (by omega)]; rfl
          have hj0 : (0 : Int) ≤ (j : Int) := by omega
          have hj1 : (j : Int) < 6 := by omega
          obtain ⟨x, hx⟩ : ∃ x, want[j]? = some x := ⟨_, List.getElem?_eq_getElem (by rw [hI.out.len]; exact hj)⟩
          have hg := Lib.hid (Dk.wv_get hx)
          have HJ := Lib.hid hj
          have HQJ := Lib.hid hq
          have HO8 : Own w wr (E6 ++ ([(gw, CellsP 29 (Dk.wv want))] ++ [])) := Own.mid (A := [_]) HO
          rcases hI.out.each j x hx with ⟨x0, x1, hlw, hgood⟩ | ⟨x1, x2, hgood⟩
          · have hgd : Dk.Good (Dk.toldS D6 j) x := by rw [htold.out j hj hlw]; exact hgood
            obtain ⟨b, hxb, hby⟩ := Dk.good_bytes HSZ6.out hgd
            have HT := Lib.hid hgd.1
            have hdx : decide (x < 1000) = true := decide_eq_true x1
            have hbl := b.isLt
            have hwx : IntKind.i64.wrap x = x := IntWalk.i64_in _ (by omega)
            have hxx : (x != x) = false := by simp
            have G0 := Lib.hid (show (Dk.bys (List.replicate 16 b))[0]? = some (.int .u8 x) by rw [hxb]; exact bys_same 16 0 b (by decide))
            have G15 := Lib.hid (show (Dk.bys (List.replicate 16 b))[15]? = some (.int .u8 x) by rw [hxb]; exact bys_same 16 15 b (by decide))
            have HBY := Lib.hid hby
            clear hx hj hq hlw hgood hgd hxb hby hbl
            go_wp2_with (refine li_index 29 3 6 j rfl rfl rfl rfl hg.out (by kernel_rfl) (by kernel_rfl) (by kernel_rfl) (by kernel_rfl) HJ.out ?_)
            go_at_call 17; refine (HRD6.out j HJ.out _ HO8).mono ?_; rw [HT.out, HBY.out]; rintro e w9 (⟨⟨ht, _⟩, _⟩ | ⟨_, gz, cz, rfl, HO9⟩)
            · cases ht
            clear HO HO8
            go_wp2_with (first | (refine li_loadRow 0 5 rfl rfl (off := 0) rfl HO9 rfl G0.out (by kernel_rfl) ?_) | (refine li_loadRow 0 5 rfl rfl (off := 15) rfl HO9 rfl G15.out (by kernel_rfl) ?_))
            have HO10 : Own w w9 ((gw, CellsP 29 (Dk.wv want)) :: (E6 ++ [])) := Own.mid (A := E6) (B := [_]) HO9.tail
            go_roundg (6 - (j + 1))
            case measure => have := HJ.out; have := HQJ.out; omega
            case rel => exact ⟨j + 1, rfl, by have := HJ.out; omega, rfl, HO10⟩
          · have hdx : decide (x < 1000) = false := decide_eq_false (by omega)
            clear hx hj hq hgood
            go_wp2_with (refine li_index 29 3 6 j rfl rfl rfl rfl hg.out (by kernel_rfl) (by kernel_rfl) (by kernel_rfl) (by kernel_rfl) HJ.out ?_)
            go_at_call 17; refine (HRD6.out j HJ.out _ HO8).mono ?_; rintro e w9 (⟨⟨ht, rfl⟩, HO9⟩ | ⟨_, gz, cz, rfl, HO9⟩)
            · clear HO HO8
              go_wp2_with (fail)
              have HO10 : Own w w9 ((gw, CellsP 29 (Dk.wv want)) :: (E6 ++ [])) := Own.mid (A := E6) (B := [_]) HO9
              go_roundg (6 - (j + 1))
              case measure => have := HJ.out; have := HQJ.out; omega
              case rel => exact ⟨j + 1, rfl, by have := HJ.out; omega, rfl, HO10⟩
            · clear HO HO8
              go_wp2_with (fail)
              have HO10 : Own w w9 ((gw, CellsP 29 (Dk.wv want)) :: (E6 ++ [])) := Own.mid (A := E6) (B := [_]) HO9.tail
              go_roundg (6 - (j + 1))
              case measure => have := HJ.out; have := HQJ.out; omega
              case rel => exact ⟨j + 1, rfl, by have := HJ.out; omega, rfl, HO10⟩
        · obtain rfl : j = 6 := by omega
          have hdj : decide (((6 : Nat) : Int) < 6) = false := by decide
          go_wp2_with (fail)
          go_ret
          exact ⟨rfl, HO.below⟩
end Go.Proofs.Ytbgjfdeolckljaa

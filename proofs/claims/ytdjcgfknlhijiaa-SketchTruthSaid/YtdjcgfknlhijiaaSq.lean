/- The reference's adding. -/
import Derived.Test.YtdjcgfknlhijiaaSp
namespace Go.Proofs.Ytdjcgfknlhijiaa
set_option linter.unusedVariables false
set_option linter.unusedSimpArgs false
set_option linter.unnecessarySimpa false
open Go.RowKit Go.Proofs.YtdjcgfknlhijiaaW.PrintLast
/-- What the reference's sketch owns. -/
def RsP (g : Nat) (r wd af ad : Int) (cs ns : List Int) (E : List Ent) : Prop :=
  (cs = [] ∧ ns = [] ∧ E = [(g, CellsP 35 (rsl r wd af ad (.slice none 0 0) (.slice none 0 0)))]) ∨
  (∃ N g1 g2 c1 c2, cs.length = N ∧ ns.length = N ∧ 0 < N ∧ E = [(g, CellsP 35 (rsl r wd af ad (.slice (some ⟨g1, 0, none⟩) N c1) (.slice (some ⟨g2, 0, none⟩) N c2))), (g1, RowP 3 1 c1 (cells64 cs)), (g2, RowP 3 1 c2 (cells64 ns))])
namespace Rs
noncomputable def num (key : Int) (j : Nat) (wd : Int) : Int := (j : Int) * 65536 + Sk.ixn key j wd
noncomputable def addC (key : Int) (wd : Int) : Nat → List Int → List Int
  | 0, cs => cs
  | k + 1, cs => incC (num key k wd) (addC key wd k cs)
noncomputable def addN (key : Int) (wd : Int) : Nat → List Int → List Int → List Int
  | 0, _, ns => ns
  | k + 1, cs, ns => incN (num key k wd) (addC key wd k cs) (addN key wd k cs ns)
theorem incC_len (n : Int) (cs : List Int) : (incC n cs).length ≤ cs.length + 1 := by
  unfold incC
  split <;> simp
theorem addC_len (key wd : Int) (cs : List Int) : ∀ j, (addC key wd j cs).length ≤ cs.length + j
  | 0 => by simp [addC]
  | j + 1 => by
    have h1 := incC_len (num key j wd) (addC key wd j cs)
    have h2 := addC_len key wd cs j
    simp only [addC]; omega
theorem addCN_len (key wd : Int) {cs ns : List Int} (h : cs.length = ns.length) : ∀ j, (addC key wd j cs).length = (addN key wd j cs ns).length
  | 0 => h
  | j + 1 => inc_length (addCN_len key wd h j)
theorem incN_bd {n B : Int} {cs ns : List Int} (h : ∀ v ∈ ns, 0 ≤ v ∧ v ≤ B) (h0 : 0 ≤ B) : ∀ v ∈ incN n cs ns, 0 ≤ v ∧ v ≤ B + 1 := by
  intro v hv
  unfold incN at hv
  split at hv
  · rename_i i hp
    rcases List.mem_or_eq_of_mem_set hv with hv | rfl
    · have := h v hv; omega
    · rw [List.getD_eq_getElem?_getD]
      cases hx : ns[i]? with
      | none => simp; omega
      | some u =>
        have := h u (List.mem_of_getElem? hx)
        simp; omega
  · rcases List.mem_append.1 hv with hv | hv
    · have := h v hv; omega
    · rw [List.mem_singleton.1 hv]; omega
theorem addN_bd (key wd : Int) {B : Int} {cs ns : List Int} (h : ∀ v ∈ ns, 0 ≤ v ∧ v ≤ B) (h0 : 0 ≤ B) : ∀ j : Nat, ∀ v ∈ addN key wd j cs ns, 0 ≤ v ∧ v ≤ B + j
  | 0 => by simpa [addN] using h
  | j + 1 => by
    intro v hv
    simp only [addN] at hv
    have := incN_bd (addN_bd key wd h h0 j) (by omega) v hv
    omega
end Rs
set_option maxRecDepth 20000 in
set_option maxHeartbeats 8000000 in
theorem RAdd_any {w0 w : World} {L E : List Ent} {g : Nat} {af ad B : Int} {rows wd : Nat} {cs ns : List Int} (key : Int) (HO : Own w0 w (E ++ L)) (hE : RsP g rows wd af ad cs ns E) (k1 : 0 ≤ key) (k2 : key < 18446744073709551616) (r2 : rows ≤ 8) (d1 : 1 ≤ wd) (d2 : wd ≤ 65536) (hB : ∀ v ∈ ns, 0 ≤ v ∧ v ≤ B) (B0 : 1 ≤ B) (B1 : B ≤ 4611686018427387000) (hN : cs.length ≤ 900000) (a1 : 0 ≤ ad) (a2 : ad < af) (a3 : af ≤ 1099511627776) :
    Calls Try.prog 14 #[.pointer (some ⟨g, 0, none⟩), .int .u64 key] w fun e w' => e = .returned (.tuple #[]) ∧ ∃ E', RsP g rows wd af (Sk.adds af ad) (Rs.addC key wd rows cs) (if ad + 1 < af then Rs.addN key wd rows cs ns else (Rs.addN key wd rows cs ns).map (· / 2)) E' ∧ Own w0 w' (E' ++ L) := by
  go_enter Try.func14, Try.ntmps14
  go_wp2_with (fail)
  go_loopg [4] rows (fun k v wr => ∃ (j : Nat) (E : List Ent), v = .int .i64 (j : Int) ∧ j ≤ rows ∧ k = rows - j ∧ RsP g rows wd af ad (Rs.addC key wd j cs) (Rs.addN key wd j cs ns) E ∧ Own w0 wr (E ++ L))
  case atStart => exact ⟨0, E, by rfl, by omega, by omega, hE, HO⟩
  case round =>
    clear HO hE
    obtain ⟨j, E, rfl, j1, hk, hE, HO⟩ := hrel
    have hlen := Rs.addC_len key wd cs j
    have hMb := Rs.addN_bd (cs := cs) key wd hB (by omega) j
    have hw1 : IntKind.i64.wrap ((j : Int) + 1) = ((j + 1 : Nat) : Int) := by rw [IntWalk.i64_in _ (by omega)]; rfl
    rcases Nat.lt_or_ge j rows with hj | hj
    · have hIl := Sk.ixn_lt key j wd d1
      obtain ⟨I, hI⟩ : ∃ I, Sk.ixn key j wd = I := ⟨_, rfl⟩
      rw [hI] at hIl
      have hn : Rs.num key j wd = (j : Int) * 65536 + (I : Int) := by unfold Rs.num; rw [hI]
      have hd : decide ((j : Int) < (rows : Int)) = true := decide_eq_true (by omega)
      have hwm : IntKind.i64.wrap ((j : Int) * 65536) = (j : Int) * 65536 := IntWalk.i64_in _ (by omega)
      have hwn : IntKind.i64.wrap ((j : Int) * 65536 + (I : Int)) = (j : Int) * 65536 + (I : Int) := IntWalk.i64_in _ (by omega)
      rcases hE with ⟨h1, h2, rfl⟩ | ⟨N, g1, g2, c1, c2, h1, h2, h3, rfl⟩
      · simp only [List.cons_append, List.nil_append] at HO
        go_wp2_with (first | (refine li_load 0 3 rfl rfl rfl HO rfl rfl (by kernel_rfl) ?_) | (go_at_call 23; refine (Mix_any key j wd _ k1 k2 (by omega) (by omega) (by omega) (by omega)).mono ?_; rw [hI]; rintro e w2 ⟨rfl, rfl⟩))
        go_at_call 24; refine (cell_nil _ HO).mono ?_; rintro e w2 ⟨rfl, rfl⟩
        go_wp2_with (first | (refine li_load 0 33 rfl rfl rfl HO rfl rfl (by kernel_rfl) ?_) | (refine li_load 1 33 rfl rfl rfl HO rfl rfl (by kernel_rfl) ?_) | (refine li_bslice 33 1 rfl rfl (by go_simp; rfl) rfl (by decide) HO ?_; clear HO; intro gn w1 HO) | (refine li_append_nil1 el33 rfl rfl rfl HO rfl rfl rfl (by decide) (by decide) (by decide) ?_; clear HO; intro gq cq wq hcq HO) | (refine li_storeSlice 1 33 rfl rfl rfl rfl HO rfl rfl (by simp) (by kernel_rfl) ?_; clear HO; intro ws HO; simp only [List.set_cons_zero, List.set_cons_succ] at HO) | (refine li_storeSlice 2 33 rfl rfl rfl rfl HO rfl rfl (by simp) (by kernel_rfl) ?_; clear HO; intro ws HO; simp only [List.set_cons_zero, List.set_cons_succ] at HO))
        have HO2 := (HO.front 1 rfl)
        simp only [List.eraseIdx_cons_succ, List.eraseIdx_cons_zero] at HO2
        have HO3 := (HO2.front 2 rfl)
        simp only [List.eraseIdx_cons_succ, List.eraseIdx_cons_zero] at HO3
        go_roundg (rows - (j + 1))
        case measure => omega
        case rel =>
          have eC : Rs.addC key wd (j + 1) cs = [(j : Int) * 65536 + I] := by simp [Rs.addC, h1, Rs.incC, Rs.pos, hn]
          have eN : Rs.addN key wd (j + 1) cs ns = [1] := by simp [Rs.addN, h1, h2, Rs.incN, Rs.pos]
          exact ⟨j + 1, [_, _, _], rfl, by omega, rfl, by rw [eC, eN]; exact .inr ⟨1, _, _, _, _, rfl, rfl, by omega, rfl⟩, HO3⟩
      · obtain ⟨C, eC⟩ : ∃ C, Rs.addC key wd j cs = C := ⟨_, rfl⟩
        obtain ⟨M, eM⟩ : ∃ M, Rs.addN key wd j cs ns = M := ⟨_, rfl⟩
        rw [eC] at h1 HO hlen
        rw [eM] at h2 HO hMb
        simp only [List.cons_append, List.nil_append] at HO
        have hNb : N ≤ 900008 := by omega
        obtain ⟨Q, hQ⟩ : ∃ Q, (j : Int) * 65536 + (I : Int) = Q := ⟨_, rfl⟩
        rw [hQ] at hwn hn
        have hC1 : Rs.addC key wd (j + 1) cs = Rs.incC Q C := by simp only [Rs.addC]; rw [eC, hn]
        have hN1 : Rs.addN key wd (j + 1) cs ns = Rs.incN Q C M := by simp only [Rs.addN]; rw [eC, eM, hn]
        have HC1 := Lib.hid hC1
        have HN1 := Lib.hid hN1
        have hcell := cell_some Q HO h1 (by omega)
        have HH1 := Lib.hid h1
        have HH2 := Lib.hid h2
        have HQ := Lib.hid hQ
        clear hC1 hN1 eC eM hn
        cases hp : Rs.pos Q C with
        | some i =>
          have hil := Rs.pos_lt hp
          have hI2 : Rs.posI Q C = (i : Int) := by unfold Rs.posI; rw [hp]
          have hiC : Rs.incC Q C = C := by unfold Rs.incC; rw [hp]
          have hiM : Rs.incN Q C M = M.set i (M.getD i 0 + 1) := by unfold Rs.incN; rw [hp]
          obtain ⟨x, hx⟩ : ∃ x, M[i]? = some x := ⟨_, List.getElem?_eq_getElem (by omega)⟩
          obtain ⟨x0, x1⟩ := hMb x (List.mem_of_getElem? hx)
          have hgd : M.getD i 0 = x := by rw [List.getD_eq_getElem?_getD, hx]; rfl
          rw [hgd] at hiM
          have hset : (cells64 M).set i (.int .i64 (x + 1)) = cells64 (Rs.incN Q C M) := by rw [hiM]; simp [cells64, List.map_set]
          have hget : (cells64 M)[i]? = some (.int .i64 x) := by simp [cells64, hx]
          have hlm : i < (cells64 M).length := by simp [cells64]; omega
          have hwx : IntKind.i64.wrap (x + 1) = x + 1 := IntWalk.i64_in _ (by omega)
          have hdi : decide ((0 : Int) ≤ (i : Int)) = true := decide_eq_true (by omega)
          have hb0 : (0 : Int) ≤ (i : Int) := by omega
          have hb1 : (i : Int) < (N : Int) := by omega
          rw [hI2] at hcell
          have hlen2 : (Rs.incN Q C M).length = N := by rw [hiM, List.length_set]; exact h2
          have HCELL := Lib.hid hcell
          have HSET := Lib.hid hset
          have HGET := Lib.hid hget
          have HIC := Lib.hid hiC
          have HLEN2 := Lib.hid hlen2
          clear hset hget hiC hiM hgd hx hp hI2 h1 h2 hlen hlen2 hcell hMb hB
          go_wp2_with (first | (refine li_load 0 3 rfl rfl rfl HO rfl rfl (by kernel_rfl) ?_) | (go_at_call 23; refine (Mix_any key j wd _ k1 k2 (by omega) (by omega) (by omega) (by omega)).mono ?_; rw [hI]; rintro e w2 ⟨rfl, rfl⟩) | (go_at_call 24; (refine HCELL.out.mono ?_); rintro e w2 ⟨rfl, rfl⟩) | (refine li_load 0 33 rfl rfl rfl HO rfl rfl (by kernel_rfl) ?_) | (refine li_loadRow 2 3 rfl rfl (off := i) rfl HO rfl HGET.out (by kernel_rfl) ?_) | (refine li_storeRowInt 2 rfl rfl rfl (off := i) rfl HO rfl rfl hlm (by kernel_rfl) ?_; clear HO; intro ws HO; simp only [List.set_cons_zero, List.set_cons_succ] at HO))
          rw [HSET.out] at HO
          go_roundg (rows - (j + 1))
          case measure => omega
          case rel => exact ⟨j + 1, _, rfl, by omega, rfl, by rw [HC1.out, HN1.out, HIC.out]; exact .inr ⟨N, g1, g2, c1, c2, HH1.out, HLEN2.out, h3, rfl⟩, HO⟩
        | none =>
          have hI2 : Rs.posI Q C = -1 := by unfold Rs.posI; rw [hp]
          have hiC : Rs.incC Q C = C ++ [Q] := by unfold Rs.incC; rw [hp]
          have hiM : Rs.incN Q C M = M ++ [1] := by unfold Rs.incN; rw [hp]
          rw [hI2] at hcell
          have hc64 : cells64 C ++ [.int .i64 Q] = cells64 (Rs.incC Q C) := by rw [hiC]; simp [cells64]
          have hm64 : cells64 M ++ [.int .i64 1] = cells64 (Rs.incN Q C M) := by rw [hiM]; simp [cells64]
          have hl1 : (cells64 C).length = N * 1 := by simp [cells64]; omega
          have hl2 : (cells64 M).length = N * 1 := by simp [cells64]; omega
          have hlc : (Rs.incC Q C).length = N + 1 := by rw [hiC]; simp; omega
          have hlm : (Rs.incN Q C M).length = N + 1 := by rw [hiM]; simp; omega
          have HCELL := Lib.hid hcell
          have HC64 := Lib.hid hc64
          have HM64 := Lib.hid hm64
          have HL1 := Lib.hid hl1
          have HL2 := Lib.hid hl2
          have HLC := Lib.hid hlc
          have HLM := Lib.hid hlm
          have hmx : maxLen = 9223372036854775807 := rfl
          have HX := Lib.hid (show N + 1 ≤ maxLen by omega)
          clear hc64 hm64 hl1 hl2 hlc hlm hiC hiM hp hI2 h1 h2 hlen hcell hMb hB hmx
          go_wp2_with (first | (refine li_load 0 3 rfl rfl rfl HO rfl rfl (by kernel_rfl) ?_) | (go_at_call 23; refine (Mix_any key j wd _ k1 k2 (by omega) (by omega) (by omega) (by omega)).mono ?_; rw [hI]; rintro e w2 ⟨rfl, rfl⟩) | (go_at_call 24; (refine HCELL.out.mono ?_); rintro e w2 ⟨rfl, rfl⟩) | (refine li_load 0 33 rfl rfl rfl HO rfl rfl (by kernel_rfl) ?_) | (refine li_load 1 33 rfl rfl rfl HO rfl rfl (by kernel_rfl) ?_) | (refine li_bslice 33 1 rfl rfl (by go_simp; rfl) rfl (by decide) HO ?_; clear HO; intro gn w1 HO) | (refine li_append_row1 1 el33 rfl rfl rfl HO rfl HL1.out rfl rfl rfl (by decide) HX.out (by omega) ?_; clear HO; intro gq cq wq hcq HO; simp only [List.eraseIdx_cons_succ, List.eraseIdx_cons_zero] at HO) | (refine li_append_row1 2 el33 rfl rfl rfl HO rfl HL2.out rfl rfl rfl (by decide) HX.out (by omega) ?_; clear HO; intro gq cq wq hcq HO; simp only [List.eraseIdx_cons_succ, List.eraseIdx_cons_zero] at HO) | (refine li_storeSlice 1 33 rfl rfl rfl rfl HO rfl rfl (by simp) (by kernel_rfl) ?_; clear HO; intro ws HO; simp only [List.set_cons_zero, List.set_cons_succ] at HO) | (refine li_storeSlice 2 33 rfl rfl rfl rfl HO rfl rfl (by simp) (by kernel_rfl) ?_; clear HO; intro ws HO; simp only [List.set_cons_zero, List.set_cons_succ] at HO))
          rw [HC64.out, HM64.out] at HO
          have HO2 := (HO.front 1 rfl)
          simp only [List.eraseIdx_cons_succ, List.eraseIdx_cons_zero] at HO2
          have HO3 := (HO2.front 2 rfl)
          simp only [List.eraseIdx_cons_succ, List.eraseIdx_cons_zero] at HO3
          go_roundg (rows - (j + 1))
          case measure => omega
          case rel => exact ⟨j + 1, [_, _, _], rfl, by omega, rfl, by rw [HC1.out, HN1.out]; exact .inr ⟨N + 1, _, _, _, _, HLC.out, HLM.out, by omega, rfl⟩, HO3⟩
    · obtain rfl : j = rows := by omega
      have hd : decide ((j : Int) < (j : Int)) = false := by simp
      have hwa : IntKind.i64.wrap (ad + 1) = ad + 1 := IntWalk.i64_in _ (by omega)
      obtain ⟨C, eC⟩ : ∃ C, Rs.addC key wd j cs = C := ⟨_, rfl⟩
      obtain ⟨M, eM⟩ : ∃ M, Rs.addN key wd j cs ns = M := ⟨_, rfl⟩
      rw [eC] at hE hlen
      rw [eM] at hE hMb
      have HC := Lib.hid eC
      have HM := Lib.hid eM
      have hMb2 : ∀ v ∈ M, 0 ≤ v ∧ v ≤ 4611686018427387905 := fun v hv => by have := hMb v hv; omega
      have HB2 := Lib.hid hMb2
      clear hMb2
      rcases hE with ⟨h1, h2, rfl⟩ | ⟨N, g1, g2, c1, c2, h1, h2, h3, rfl⟩
      · simp only [List.cons_append, List.nil_append] at HO
        have hNb : C.length ≤ 900008 := by omega
        try rw [h1] at hNb
        have H1 := Lib.hid h1
        have H2 := Lib.hid h2
        clear h1 h2 eC eM hMb hB
        go_wp2_with (first | (refine li_load 0 3 rfl rfl rfl HO rfl rfl (by kernel_rfl) ?_) | (refine li_load 0 2 rfl rfl rfl HO rfl rfl (by kernel_rfl) ?_) | (refine li_storeInt 0 2 rfl rfl rfl rfl HO rfl rfl (by simp) (by kernel_rfl) ?_; clear HO; intro ws HO; simp only [List.set_cons_zero, List.set_cons_succ] at HO))
        by_cases hf : ad + 1 < af
        · have hq : (ad + 1 == af) = false := by simp; omega
          refine start_ (n := 9) (S := fun w' => w'.cell? ⟨g, 3, none⟩ = some (.int .i64 (ad + 1)) ∧ w'.cell? ⟨g, 2, none⟩ = some (.int .i64 af)) (ds := []) #[false, false, false, false, false, false, false, false, false] (by kernel_rfl) rfl rfl ⟨(by first | exact HO.drew.cell 0 rfl _ rfl), (by first | exact HO.drew.cell 0 rfl _ rfl)⟩ (fun hHeld => ?_)
          replace HO := HO.drew
          refine pure_ (i := 0) (N := some 65) (v := ?_) (a' := ?_) #[true, false, false, false, false, false, false, false, false] rfl rfl (by kernel_rfl) (fun _ _ _ h => h) (Or.inl ⟨by rfl, ?_⟩) ?_ ?_
          rotate_left
          · intro w'
            go_simp
            with_reducible rfl
          rotate_left
          · simp only [Act.put, List.setIfInBounds_toArray, List.set_cons_zero, List.set_cons_succ, i64_w, i32_w]
            rfl
          refine pure_ (i := 1) (N := some 66) (v := ?_) (a' := ?_) #[true, true, false, false, false, false, false, false, false] rfl rfl (by kernel_rfl) (fun _ _ _ h => h) (Or.inl ⟨by rfl, ?_⟩) ?_ ?_
          rotate_left
          · intro w'
            go_simp
            with_reducible rfl
          rotate_left
          · simp only [Act.put, List.setIfInBounds_toArray, List.set_cons_zero, List.set_cons_succ, i64_w, i32_w]
            rfl
          refine pure_ (i := 2) (N := some 67) (v := ?_) (a' := ?_) #[true, true, true, false, false, false, false, false, false] rfl rfl (by kernel_rfl) (fun _ _ _ h => h) (Or.inl ⟨by rfl, ?_⟩) ?_ ?_
          rotate_left
          · intro w'
            go_simp
            with_reducible rfl
          rotate_left
          · simp only [Act.put, List.setIfInBounds_toArray, List.set_cons_zero, List.set_cons_succ, i64_w, i32_w]
            rfl
          refine pure_ (i := 4) (N := some 69) (v := ?_) (a' := ?_) #[true, true, true, false, true, false, false, false, false] rfl rfl (by kernel_rfl) (fun _ _ _ h => h) (Or.inl ⟨by rfl, ?_⟩) ?_ ?_
          rotate_left
          · intro w'
            go_simp
            with_reducible rfl
          rotate_left
          · simp only [Act.put, List.setIfInBounds_toArray, List.set_cons_zero, List.set_cons_succ, i64_w, i32_w]
            rfl
          refine pure_ (i := 5) (N := some 70) (v := ?_) (a' := ?_) #[true, true, true, false, true, true, false, false, false] rfl rfl (by kernel_rfl) (fun _ _ _ h => h) (Or.inl ⟨by rfl, ?_⟩) ?_ ?_
          rotate_left
          · intro w'
            go_simp
            with_reducible rfl
          rotate_left
          · simp only [Act.put, List.setIfInBounds_toArray, List.set_cons_zero, List.set_cons_succ, i64_w, i32_w]
            rfl
          refine pure_ (i := 6) (N := some 71) (v := ?_) (a' := ?_) #[true, true, true, false, true, true, true, false, false] rfl rfl (by kernel_rfl) (fun _ _ _ h => h) (Or.inl ⟨by rfl, ?_⟩) ?_ ?_
          rotate_left
          · intro w'
            go_simp
            with_reducible rfl
          rotate_left
          · simp only [Act.put, List.setIfInBounds_toArray, List.set_cons_zero, List.set_cons_succ, i64_w, i32_w]
            rfl
          refine take_ (i := 3) (N := some 68) (v := ?_) (a' := ?_) #[true, true, true, true, true, true, true, false, false] rfl rfl (by kernel_rfl) (fun _ _ _ h => h) (Or.inl ⟨by rfl, ?_⟩) hHeld ?_ ?_
          rotate_left
          · rintro w' ⟨s0, s1⟩
            go_simp
            with_reducible rfl
          rotate_left
          · simp only [Act.put, List.setIfInBounds_toArray, List.set_cons_zero, List.set_cons_succ, i64_w, i32_w]
            rfl
          refine take_ (i := 7) (N := some 72) (v := ?_) (a' := ?_) #[true, true, true, true, true, true, true, true, false] rfl rfl (by kernel_rfl) (fun _ _ _ h => h) (Or.inl ⟨by rfl, ?_⟩) hHeld ?_ ?_
          rotate_left
          · rintro w' ⟨s0, s1⟩
            go_simp
            with_reducible rfl
          rotate_left
          · simp only [Act.put, List.setIfInBounds_toArray, List.set_cons_zero, List.set_cons_succ, i64_w, i32_w]
            rfl
          refine pure_ (i := 8) (N := some 73) (v := ?_) (a' := ?_) #[true, true, true, true, true, true, true, true, true] rfl rfl (by kernel_rfl) (fun _ _ _ h => h) (Or.inl ⟨by rfl, ?_⟩) ?_ ?_
          rotate_left
          · intro w'
            go_simp
            with_reducible rfl
          rotate_left
          · simp only [Act.put, List.setIfInBounds_toArray, List.set_cons_zero, List.set_cons_succ, i64_w, i32_w]
            rfl
          refine done_ (by kernel_rfl) ?_
          go_wp2_with (fail)
          go_end0
          refine ⟨rfl, [_], ?_, HO⟩
          (try unfold Sk.adds)
          (try simp only [if_pos (show ad + 1 < af by omega)])
          rw [HC.out, HM.out]
          exact .inl ⟨H1.out, H2.out, rfl⟩
        · have hq : (ad + 1 == af) = true := by simp; omega
          refine start_ (n := 9) (S := fun w' => w'.cell? ⟨g, 3, none⟩ = some (.int .i64 (ad + 1)) ∧ w'.cell? ⟨g, 2, none⟩ = some (.int .i64 af)) (ds := []) #[false, false, false, false, false, false, false, false, false] (by kernel_rfl) rfl rfl ⟨(by first | exact HO.drew.cell 0 rfl _ rfl), (by first | exact HO.drew.cell 0 rfl _ rfl)⟩ (fun hHeld => ?_)
          replace HO := HO.drew
          refine pure_ (i := 0) (N := some 65) (v := ?_) (a' := ?_) #[true, false, false, false, false, false, false, false, false] rfl rfl (by kernel_rfl) (fun _ _ _ h => h) (Or.inl ⟨by rfl, ?_⟩) ?_ ?_
          rotate_left
          · intro w'
            go_simp
            with_reducible rfl
          rotate_left
          · simp only [Act.put, List.setIfInBounds_toArray, List.set_cons_zero, List.set_cons_succ, i64_w, i32_w]
            rfl
          refine pure_ (i := 1) (N := some 66) (v := ?_) (a' := ?_) #[true, true, false, false, false, false, false, false, false] rfl rfl (by kernel_rfl) (fun _ _ _ h => h) (Or.inl ⟨by rfl, ?_⟩) ?_ ?_
          rotate_left
          · intro w'
            go_simp
            with_reducible rfl
          rotate_left
          · simp only [Act.put, List.setIfInBounds_toArray, List.set_cons_zero, List.set_cons_succ, i64_w, i32_w]
            rfl
          refine pure_ (i := 2) (N := some 67) (v := ?_) (a' := ?_) #[true, true, true, false, false, false, false, false, false] rfl rfl (by kernel_rfl) (fun _ _ _ h => h) (Or.inl ⟨by rfl, ?_⟩) ?_ ?_
          rotate_left
          · intro w'
            go_simp
            with_reducible rfl
          rotate_left
          · simp only [Act.put, List.setIfInBounds_toArray, List.set_cons_zero, List.set_cons_succ, i64_w, i32_w]
            rfl
          refine pure_ (i := 4) (N := some 69) (v := ?_) (a' := ?_) #[true, true, true, false, true, false, false, false, false] rfl rfl (by kernel_rfl) (fun _ _ _ h => h) (Or.inl ⟨by rfl, ?_⟩) ?_ ?_
          rotate_left
          · intro w'
            go_simp
            with_reducible rfl
          rotate_left
          · simp only [Act.put, List.setIfInBounds_toArray, List.set_cons_zero, List.set_cons_succ, i64_w, i32_w]
            rfl
          refine pure_ (i := 5) (N := some 70) (v := ?_) (a' := ?_) #[true, true, true, false, true, true, false, false, false] rfl rfl (by kernel_rfl) (fun _ _ _ h => h) (Or.inl ⟨by rfl, ?_⟩) ?_ ?_
          rotate_left
          · intro w'
            go_simp
            with_reducible rfl
          rotate_left
          · simp only [Act.put, List.setIfInBounds_toArray, List.set_cons_zero, List.set_cons_succ, i64_w, i32_w]
            rfl
          refine pure_ (i := 6) (N := some 71) (v := ?_) (a' := ?_) #[true, true, true, false, true, true, true, false, false] rfl rfl (by kernel_rfl) (fun _ _ _ h => h) (Or.inl ⟨by rfl, ?_⟩) ?_ ?_
          rotate_left
          · intro w'
            go_simp
            with_reducible rfl
          rotate_left
          · simp only [Act.put, List.setIfInBounds_toArray, List.set_cons_zero, List.set_cons_succ, i64_w, i32_w]
            rfl
          refine take_ (i := 3) (N := some 68) (v := ?_) (a' := ?_) #[true, true, true, true, true, true, true, false, false] rfl rfl (by kernel_rfl) (fun _ _ _ h => h) (Or.inl ⟨by rfl, ?_⟩) hHeld ?_ ?_
          rotate_left
          · rintro w' ⟨s0, s1⟩
            go_simp
            with_reducible rfl
          rotate_left
          · simp only [Act.put, List.setIfInBounds_toArray, List.set_cons_zero, List.set_cons_succ, i64_w, i32_w]
            rfl
          refine take_ (i := 7) (N := some 72) (v := ?_) (a' := ?_) #[true, true, true, true, true, true, true, true, false] rfl rfl (by kernel_rfl) (fun _ _ _ h => h) (Or.inl ⟨by rfl, ?_⟩) hHeld ?_ ?_
          rotate_left
          · rintro w' ⟨s0, s1⟩
            go_simp
            with_reducible rfl
          rotate_left
          · simp only [Act.put, List.setIfInBounds_toArray, List.set_cons_zero, List.set_cons_succ, i64_w, i32_w]
            rfl
          refine pure_ (i := 8) (N := some 73) (v := ?_) (a' := ?_) #[true, true, true, true, true, true, true, true, true] rfl rfl (by kernel_rfl) (fun _ _ _ h => h) (Or.inl ⟨by rfl, ?_⟩) ?_ ?_
          rotate_left
          · intro w'
            go_simp
            with_reducible rfl
          rotate_left
          · simp only [Act.put, List.setIfInBounds_toArray, List.set_cons_zero, List.set_cons_succ, i64_w, i32_w]
            rfl
          refine done_ (by kernel_rfl) ?_
          go_wp2_with (first | (go_at_call 16; refine (RAge_nil HO).mono ?_; rintro e w2 ⟨rfl, HO1⟩; clear HO; have HO := HO1; clear HO1))
          go_end0
          refine ⟨rfl, [_], ?_, HO⟩
          (try unfold Sk.adds)
          (try simp only [if_neg (show ¬ (ad + 1 < af) by omega)])
          rw [HC.out, HM.out]
          exact .inl ⟨H1.out, by simp [H2.out], rfl⟩
      · simp only [List.cons_append, List.nil_append] at HO
        have hNb : C.length ≤ 900008 := by omega
        try rw [h1] at hNb
        have H1 := Lib.hid h1
        have H2 := Lib.hid h2
        clear h1 h2 eC eM hMb hB
        go_wp2_with (first | (refine li_load 0 3 rfl rfl rfl HO rfl rfl (by kernel_rfl) ?_) | (refine li_load 0 2 rfl rfl rfl HO rfl rfl (by kernel_rfl) ?_) | (refine li_storeInt 0 2 rfl rfl rfl rfl HO rfl rfl (by simp) (by kernel_rfl) ?_; clear HO; intro ws HO; simp only [List.set_cons_zero, List.set_cons_succ] at HO))
        by_cases hf : ad + 1 < af
        · have hq : (ad + 1 == af) = false := by simp; omega
          refine start_ (n := 9) (S := fun w' => w'.cell? ⟨g, 3, none⟩ = some (.int .i64 (ad + 1)) ∧ w'.cell? ⟨g, 2, none⟩ = some (.int .i64 af)) (ds := []) #[false, false, false, false, false, false, false, false, false] (by kernel_rfl) rfl rfl ⟨(by first | exact HO.drew.cell 0 rfl _ rfl), (by first | exact HO.drew.cell 0 rfl _ rfl)⟩ (fun hHeld => ?_)
          replace HO := HO.drew
          refine pure_ (i := 0) (N := some 65) (v := ?_) (a' := ?_) #[true, false, false, false, false, false, false, false, false] rfl rfl (by kernel_rfl) (fun _ _ _ h => h) (Or.inl ⟨by rfl, ?_⟩) ?_ ?_
          rotate_left
          · intro w'
            go_simp
            with_reducible rfl
          rotate_left
          · simp only [Act.put, List.setIfInBounds_toArray, List.set_cons_zero, List.set_cons_succ, i64_w, i32_w]
            rfl
          refine pure_ (i := 1) (N := some 66) (v := ?_) (a' := ?_) #[true, true, false, false, false, false, false, false, false] rfl rfl (by kernel_rfl) (fun _ _ _ h => h) (Or.inl ⟨by rfl, ?_⟩) ?_ ?_
          rotate_left
          · intro w'
            go_simp
            with_reducible rfl
          rotate_left
          · simp only [Act.put, List.setIfInBounds_toArray, List.set_cons_zero, List.set_cons_succ, i64_w, i32_w]
            rfl
          refine pure_ (i := 2) (N := some 67) (v := ?_) (a' := ?_) #[true, true, true, false, false, false, false, false, false] rfl rfl (by kernel_rfl) (fun _ _ _ h => h) (Or.inl ⟨by rfl, ?_⟩) ?_ ?_
          rotate_left
          · intro w'
            go_simp
            with_reducible rfl
          rotate_left
          · simp only [Act.put, List.setIfInBounds_toArray, List.set_cons_zero, List.set_cons_succ, i64_w, i32_w]
            rfl
          refine pure_ (i := 4) (N := some 69) (v := ?_) (a' := ?_) #[true, true, true, false, true, false, false, false, false] rfl rfl (by kernel_rfl) (fun _ _ _ h => h) (Or.inl ⟨by rfl, ?_⟩) ?_ ?_
          rotate_left
          · intro w'
            go_simp
            with_reducible rfl
          rotate_left
          · simp only [Act.put, List.setIfInBounds_toArray, List.set_cons_zero, List.set_cons_succ, i64_w, i32_w]
            rfl
          refine pure_ (i := 5) (N := some 70) (v := ?_) (a' := ?_) #[true, true, true, false, true, true, false, false, false] rfl rfl (by kernel_rfl) (fun _ _ _ h => h) (Or.inl ⟨by rfl, ?_⟩) ?_ ?_
          rotate_left
          · intro w'
            go_simp
            with_reducible rfl
          rotate_left
          · simp only [Act.put, List.setIfInBounds_toArray, List.set_cons_zero, List.set_cons_succ, i64_w, i32_w]
            rfl
          refine pure_ (i := 6) (N := some 71) (v := ?_) (a' := ?_) #[true, true, true, false, true, true, true, false, false] rfl rfl (by kernel_rfl) (fun _ _ _ h => h) (Or.inl ⟨by rfl, ?_⟩) ?_ ?_
          rotate_left
          · intro w'
            go_simp
            with_reducible rfl
          rotate_left
          · simp only [Act.put, List.setIfInBounds_toArray, List.set_cons_zero, List.set_cons_succ, i64_w, i32_w]
            rfl
          refine take_ (i := 3) (N := some 68) (v := ?_) (a' := ?_) #[true, true, true, true, true, true, true, false, false] rfl rfl (by kernel_rfl) (fun _ _ _ h => h) (Or.inl ⟨by rfl, ?_⟩) hHeld ?_ ?_
          rotate_left
          · rintro w' ⟨s0, s1⟩
            go_simp
            with_reducible rfl
          rotate_left
          · simp only [Act.put, List.setIfInBounds_toArray, List.set_cons_zero, List.set_cons_succ, i64_w, i32_w]
            rfl
          refine take_ (i := 7) (N := some 72) (v := ?_) (a' := ?_) #[true, true, true, true, true, true, true, true, false] rfl rfl (by kernel_rfl) (fun _ _ _ h => h) (Or.inl ⟨by rfl, ?_⟩) hHeld ?_ ?_
          rotate_left
          · rintro w' ⟨s0, s1⟩
            go_simp
            with_reducible rfl
          rotate_left
          · simp only [Act.put, List.setIfInBounds_toArray, List.set_cons_zero, List.set_cons_succ, i64_w, i32_w]
            rfl
          refine pure_ (i := 8) (N := some 73) (v := ?_) (a' := ?_) #[true, true, true, true, true, true, true, true, true] rfl rfl (by kernel_rfl) (fun _ _ _ h => h) (Or.inl ⟨by rfl, ?_⟩) ?_ ?_
          rotate_left
          · intro w'
            go_simp
            with_reducible rfl
          rotate_left
          · simp only [Act.put, List.setIfInBounds_toArray, List.set_cons_zero, List.set_cons_succ, i64_w, i32_w]
            rfl
          refine done_ (by kernel_rfl) ?_
          go_wp2_with (fail)
          go_end0
          refine ⟨rfl, [_, _, _], ?_, HO⟩
          (try unfold Sk.adds)
          (try simp only [if_pos (show ad + 1 < af by omega)])
          rw [HC.out, HM.out]
          exact .inr ⟨N, g1, g2, c1, c2, H1.out, H2.out, h3, rfl⟩
        · have hq : (ad + 1 == af) = true := by simp; omega
          refine start_ (n := 9) (S := fun w' => w'.cell? ⟨g, 3, none⟩ = some (.int .i64 (ad + 1)) ∧ w'.cell? ⟨g, 2, none⟩ = some (.int .i64 af)) (ds := []) #[false, false, false, false, false, false, false, false, false] (by kernel_rfl) rfl rfl ⟨(by first | exact HO.drew.cell 0 rfl _ rfl), (by first | exact HO.drew.cell 0 rfl _ rfl)⟩ (fun hHeld => ?_)
          replace HO := HO.drew
          refine pure_ (i := 0) (N := some 65) (v := ?_) (a' := ?_) #[true, false, false, false, false, false, false, false, false] rfl rfl (by kernel_rfl) (fun _ _ _ h => h) (Or.inl ⟨by rfl, ?_⟩) ?_ ?_
          rotate_left
          · intro w'
            go_simp
            with_reducible rfl
          rotate_left
          · simp only [Act.put, List.setIfInBounds_toArray, List.set_cons_zero, List.set_cons_succ, i64_w, i32_w]
            rfl
          refine pure_ (i := 1) (N := some 66) (v := ?_) (a' := ?_) #[true, true, false, false, false, false, false, false, false] rfl rfl (by kernel_rfl) (fun _ _ _ h => h) (Or.inl ⟨by rfl, ?_⟩) ?_ ?_
          rotate_left
          · intro w'
            go_simp
            with_reducible rfl
          rotate_left
          · simp only [Act.put, List.setIfInBounds_toArray, List.set_cons_zero, List.set_cons_succ, i64_w, i32_w]
            rfl
          refine pure_ (i := 2) (N := some 67) (v := ?_) (a' := ?_) #[true, true, true, false, false, false, false, false, false] rfl rfl (by kernel_rfl) (fun _ _ _ h => h) (Or.inl ⟨by rfl, ?_⟩) ?_ ?_
          rotate_left
          · intro w'
            go_simp
            with_reducible rfl
          rotate_left
          · simp only [Act.put, List.setIfInBounds_toArray, List.set_cons_zero, List.set_cons_succ, i64_w, i32_w]
            rfl
          refine pure_ (i := 4) (N := some 69) (v := ?_) (a' := ?_) #[true, true, true, false, true, false, false, false, false] rfl rfl (by kernel_rfl) (fun _ _ _ h => h) (Or.inl ⟨by rfl, ?_⟩) ?_ ?_
          rotate_left
          · intro w'
            go_simp
            with_reducible rfl
          rotate_left
          · simp only [Act.put, List.setIfInBounds_toArray, List.set_cons_zero, List.set_cons_succ, i64_w, i32_w]
            rfl
          refine pure_ (i := 5) (N := some 70) (v := ?_) (a' := ?_) #[true, true, true, false, true, true, false, false, false] rfl rfl (by kernel_rfl) (fun _ _ _ h => h) (Or.inl ⟨by rfl, ?_⟩) ?_ ?_
          rotate_left
          · intro w'
            go_simp
            with_reducible rfl
          rotate_left
          · simp only [Act.put, List.setIfInBounds_toArray, List.set_cons_zero, List.set_cons_succ, i64_w, i32_w]
            rfl
          refine pure_ (i := 6) (N := some 71) (v := ?_) (a' := ?_) #[true, true, true, false, true, true, true, false, false] rfl rfl (by kernel_rfl) (fun _ _ _ h => h) (Or.inl ⟨by rfl, ?_⟩) ?_ ?_
          rotate_left
          · intro w'
            go_simp
            with_reducible rfl
          rotate_left
          · simp only [Act.put, List.setIfInBounds_toArray, List.set_cons_zero, List.set_cons_succ, i64_w, i32_w]
            rfl
          refine take_ (i := 3) (N := some 68) (v := ?_) (a' := ?_) #[true, true, true, true, true, true, true, false, false] rfl rfl (by kernel_rfl) (fun _ _ _ h => h) (Or.inl ⟨by rfl, ?_⟩) hHeld ?_ ?_
          rotate_left
          · rintro w' ⟨s0, s1⟩
            go_simp
            with_reducible rfl
          rotate_left
          · simp only [Act.put, List.setIfInBounds_toArray, List.set_cons_zero, List.set_cons_succ, i64_w, i32_w]
            rfl
          refine take_ (i := 7) (N := some 72) (v := ?_) (a' := ?_) #[true, true, true, true, true, true, true, true, false] rfl rfl (by kernel_rfl) (fun _ _ _ h => h) (Or.inl ⟨by rfl, ?_⟩) hHeld ?_ ?_
          rotate_left
          · rintro w' ⟨s0, s1⟩
            go_simp
            with_reducible rfl
          rotate_left
          · simp only [Act.put, List.setIfInBounds_toArray, List.set_cons_zero, List.set_cons_succ, i64_w, i32_w]
            rfl
          refine pure_ (i := 8) (N := some 73) (v := ?_) (a' := ?_) #[true, true, true, true, true, true, true, true, true] rfl rfl (by kernel_rfl) (fun _ _ _ h => h) (Or.inl ⟨by rfl, ?_⟩) ?_ ?_
          rotate_left
          · intro w'
            go_simp
            with_reducible rfl
          rotate_left
          · simp only [Act.put, List.setIfInBounds_toArray, List.set_cons_zero, List.set_cons_succ, i64_w, i32_w]
            rfl
          refine done_ (by kernel_rfl) ?_
          go_wp2_with (first | (go_at_call 16; refine (RAge_some HO H2.out (by omega) HB2.out).mono ?_; rintro e w2 ⟨rfl, HO1⟩; clear HO; have HO := HO1; clear HO1))
          go_end0
          refine ⟨rfl, [_, _, _], ?_, HO⟩
          (try unfold Sk.adds)
          (try simp only [if_neg (show ¬ (ad + 1 < af) by omega)])
          rw [HC.out, HM.out]
          exact .inr ⟨N, g1, g2, c1, c2, H1.out, by simp [H2.out], h3, rfl⟩
end Go.Proofs.Ytdjcgfknlhijiaa

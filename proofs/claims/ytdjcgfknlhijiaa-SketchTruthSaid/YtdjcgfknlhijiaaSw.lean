/- What the law on the truth computes: its walk. -/
import Derived.Test.YtdjcgfknlhijiaaSv
import Derived.Test.YtdjcgfknlhijiaaC
namespace Go.Proofs.Ytdjcgfknlhijiaa
set_option linter.unusedVariables false
set_option linter.unusedSimpArgs false
set_option linter.unnecessarySimpa false
open Go.RowKit Go.Proofs.YtdjcgfknlhijiaaW.PrintLast
theorem xm_x {A E : List Ent} {x m : Ent} : x ∈ A ++ (E ++ ([x] ++ [m])) := by simp
theorem xm_m {A E : List Ent} {x m : Ent} : m ∈ A ++ (E ++ ([x] ++ [m])) := by simp
set_option maxRecDepth 20000 in
set_option maxHeartbeats 16000000 in
theorem SketchTruth_any (a b c : Int) (l : Value) (ops : List ({k : Int // 0 ≤ k ∧ k ≤ 255} × {k : Int // 0 ≤ k ∧ k < 18446744073709551616})) (w : World) (hl : ArgS w 2 l (ops.map opRow)) :
    Calls Try.prog 5 #[.agg #[.int .i64 a, .int .i64 b, .int .i64 c], l] w fun e w' => e = .returned (.bool true) ∧ Below w.heap.size w w' := by
  have HO := Own.nil w
  obtain ⟨ao, cap, rfl, hml, hrd⟩ := argS_op hl
  clear hl
  obtain ⟨B, hB⟩ : ∃ B, Sk.hw b = B := ⟨_, rfl⟩
  have hle := Sk.hw_le b
  rw [hB] at hle
  obtain ⟨n, hn⟩ : ∃ n, ops.length = n := ⟨_, rfl⟩
  have hmx : maxLen = 9223372036854775807 := rfl
  rw [hn] at hml ⊢
  have hnb : n ≤ 9223372036854775807 := by omega
  have HN := Lib.hid hn
  clear hmx hml hn
  by_cases hbig : 100 < n
  · have hd : decide ((100 : Int) < (n : Int)) = true := decide_eq_true (by omega)
    go_enter Try.func5, Try.ntmps5
    go_upto_region 2 with (first | (refine li_boxAgg 23 rfl rfl rfl HO ?_; clear HO; intro ga wa HO) | ((with_reducible refine gate_load 23 rfl ?_); refine li_loadWhole 0 23 3 rfl rfl rfl HO rfl rfl (by kernel_rfl) (by kernel_rfl) (by kernel_rfl) ?_) | ((with_reducible refine gate_store 23 rfl ?_); refine li_storeAgg 0 23 rfl rfl rfl rfl HO rfl rfl rfl (by simp) (by kernel_rfl) ?_; clear HO; intro ws HO; simp only [List.set_cons_zero] at HO) | (go_at_call 10; (refine (held_any a b c _).mono ?_); rw [hB]; rintro e w1 ⟨rfl, hb⟩; replace HO := HO.next hb; clear hb) | (go_at_call 9; (refine (awake_any HO).mono ?_); rintro e w2 ⟨rfl, HO1⟩; clear HO; have HO := HO1; clear HO1))
    go_upto_region 3 with (fail)
    go_wp2_with (go_at_call 9; (refine (awake_any HO).mono ?_); rintro e w2 ⟨rfl, HO1⟩; clear HO; have HO := HO1; clear HO1)
    go_ret
    exact ⟨rfl, HO.below⟩
  have hd : decide ((100 : Int) < (n : Int)) = false := decide_eq_false (by omega)
  rcases Bool.eq_false_or_eq_true (Sk.right a B c) with hr | hr
  rotate_left
  · have H := Lib.hid hr
    clear hr
    go_enter Try.func5, Try.ntmps5
    go_wp2_with (first | (refine li_boxAgg 23 rfl rfl rfl HO ?_; clear HO; intro ga wa HO) | ((with_reducible refine gate_load 3 rfl ?_); refine li_load 0 3 rfl rfl rfl HO rfl rfl (by kernel_rfl) ?_) | ((with_reducible refine gate_load 2 rfl ?_); refine li_load 0 2 rfl rfl rfl HO rfl rfl (by kernel_rfl) ?_) | ((with_reducible refine gate_load 23 rfl ?_); refine li_loadWhole 0 23 3 rfl rfl rfl HO rfl rfl (by kernel_rfl) (by kernel_rfl) (by kernel_rfl) ?_) | ((with_reducible refine gate_store 23 rfl ?_); refine li_storeAgg 0 23 rfl rfl rfl rfl HO rfl rfl rfl (by simp) (by kernel_rfl) ?_; clear HO; intro ws HO; simp only [List.set_cons_zero] at HO) | (go_at_call 10; (refine (held_any a b c _).mono ?_); rw [hB]; rintro e w1 ⟨rfl, hb⟩; replace HO := HO.next hb; clear hb) | (go_at_call 12; (refine (Right_any _ _ _ _).mono ?_); rw [H.out]; rintro e w2 ⟨rfl, rfl⟩) | (go_at_call 9; (refine (awake_any HO).mono ?_); rintro e w2 ⟨rfl, HO1⟩; clear HO; have HO := HO1; clear HO1))
    go_ret
    exact ⟨rfl, HO.below⟩
  obtain ⟨r1, r2, r3, r4, r5, r6⟩ : 1 ≤ a ∧ a ≤ 8 ∧ 1 ≤ B ∧ B ≤ 65536 ∧ 1 ≤ c ∧ c ≤ 1099511627776 := by unfold Sk.right at hr; simp at hr; omega
  have H := Lib.hid hr
  clear hr
  obtain ⟨rows, rfl⟩ : ∃ r : Nat, a = r := ⟨a.toNat, by omega⟩
  obtain ⟨wd, rfl⟩ : ∃ r : Nat, B = r := ⟨B.toNat, by omega⟩
  go_enter Try.func5, Try.ntmps5
  go_wp2_with (first | (refine li_boxAgg 23 rfl rfl rfl HO ?_; clear HO; intro ga wa HO) | ((with_reducible refine gate_load 3 rfl ?_); refine li_load 0 3 rfl rfl rfl HO rfl rfl (by kernel_rfl) ?_) | ((with_reducible refine gate_load 2 rfl ?_); refine li_load 0 2 rfl rfl rfl HO rfl rfl (by kernel_rfl) ?_) | ((with_reducible refine gate_load 23 rfl ?_); refine li_loadWhole 0 23 3 rfl rfl rfl HO rfl rfl (by kernel_rfl) (by kernel_rfl) (by kernel_rfl) ?_) | ((with_reducible refine gate_store 23 rfl ?_); refine li_storeAgg 0 23 rfl rfl rfl rfl HO rfl rfl rfl (by simp) (by kernel_rfl) ?_; clear HO; intro ws HO; simp only [List.set_cons_zero] at HO) | (go_at_call 10; (refine (held_any rows b c _).mono ?_); rw [hB]; rintro e w1 ⟨rfl, hb⟩; replace HO := HO.next hb; clear hb) | (go_at_call 12; (refine (Right_any _ _ _ _).mono ?_); rw [H.out]; rintro e w2 ⟨rfl, rfl⟩) | (go_at_call 11; (refine (SNew_yes rows wd c HO (by omega) (by omega) (by omega) (by omega) (by omega) (by omega)).mono ?_); rintro e w2 ⟨gs, gr, cp, R, rfl, HO1, hR, hz⟩; clear HO; have HO := HO1; clear HO1))
  have HO0 : Own w w2 (SkE gs gr cp c 0 R ++ ([] ++ [((ga, CellsP 23 (mkl rows wd c)) : Ent)])) := HO
  have hTr : Tr rows wd c 0 R [] [] 0 := ⟨Sk.zero_shape hz (by omega) (by omega) (by omega) (by omega), Sk.zero_bd hz, rfl, by simp, by simp, by omega, by omega, fun i k t hk => by simp at hk⟩
  have hE0 : KtP (.slice none 0 0) (.slice none 0 0) [] [] [] := .inl ⟨rfl, rfl, rfl, rfl, rfl⟩
  clear HO hz hR
  go_loopg [7, 8, 9, 53] n (fun k v7 v8 v9 v wr => ∃ (j : Nat) (R : List Row) (K T : List Int) (ad : Int) (E : List Ent), v = .int .i64 (j : Int) ∧ j ≤ n ∧ k = n - j ∧ v9 = .int .i64 ad ∧ Tr rows wd c j R K T ad ∧ KtP v7 v8 K T E ∧ Own w wr (SkE gs gr cp c ad R ++ (E ++ [((ga, CellsP 23 (mkl rows wd c)) : Ent)])))
  case atStart => exact ⟨0, R, [], [], 0, [], by rfl, by omega, by omega, rfl, hTr, hE0, HO0⟩
  case round =>
    clear HO0 hTr hE0
    obtain ⟨j, R, K, T, ad, E, rfl, j1, hk, rfl, hP, hE, HO⟩ := hrel
    rcases Nat.lt_or_ge j n with hj | hj
    · have hd4 : decide ((j : Int) < (n : Int)) = true := decide_eq_true (by omega)
      have hw1 : IntKind.i64.wrap ((j : Int) + 1) = ((j + 1 : Nat) : Int) := by rw [IntWalk.i64_in _ (by omega)]; rfl
      have hb0 : (0 : Int) ≤ (j : Int) := by omega
      have hb1 : (j : Int) < (n : Int) := by omega
      obtain ⟨q, e1⟩ : ∃ k, ops[j]? = some k := ⟨_, List.getElem?_eq_getElem (by rw [HN.out]; omega)⟩
      obtain ⟨ad1, rfl, hcl⟩ := hrd j q e1
      obtain ⟨⟨kd, kd0, kd1⟩, ⟨key, k1, k2⟩⟩ := q
      have hcl' : ∀ (i : Nat) (x : Value), ([.int .u8 kd, .int .u64 key] : List Value)[i]? = some x → w.cell? ((ad1.add (j * 2)).add i) = some x := hcl
      have HCL := Lib.hid hcl'
      have hmod : kd.tmod 3 = kd % 3 := Int.tmod_eq_emod_of_nonneg kd0
      have hPb := hP.bd
      have hPf := hP.few
      have hPa := hP.a0
      have hPa1 := hP.a1
      have HS := Lib.hid hP.shape
      have HB := Lib.hid hPb
      have HP := Lib.hid hP
      have HE := Lib.hid hE
      clear e1 hcl hcl' hP hE hPb hrd
      have hm3 : kd % 3 = 0 ∨ kd % 3 = 1 ∨ kd % 3 = 2 := by omega
      go_upto_region 13 with (first | ((with_reducible refine gate_load 38 rfl ?_); refine li_loadAggAt 38 2 rfl rfl rfl (fun i x h => HO.old (HCL.out i x h)) rfl (by kernel_rfl) (by kernel_rfl) (by kernel_rfl) ?_) | (refine li_alloc (t := 38) rfl rfl (z := .agg #[.int .u8 0, .int .u64 0]) (cs := [.int .u8 0, .int .u64 0]) (by kernel_rfl) rfl HO ?_; clear HO; intro gc wc HO) | ((with_reducible refine gate_store 38 rfl ?_); refine li_storeAgg 0 38 rfl rfl rfl rfl HO rfl rfl rfl rfl (by kernel_rfl) ?_; clear HO; intro ws HO; simp only [List.set_cons_zero] at HO))
      replace HO := Own.mid2 (HO.mid (A := [((gc, CellsP 38 [.int .u8 kd, .int .u64 key]) : Ent)]) (B := SkE gs gr cp c ad R) (L := E ++ [((ga, CellsP 23 (mkl rows wd c)) : Ent)]))
      obtain ⟨md, hmd⟩ : ∃ md, kd % 3 = md := ⟨_, rfl⟩
      rw [hmd] at hmod hm3
      go_upto_if 64 with ((with_reducible refine gate_load 5 rfl ?_); refine li_loadAt 5 rfl rfl rfl (HO.cellM xm_x 0 rfl) (by kernel_rfl) ?_)
      go_cut [7, 8, 9, 12] (fun s7 s8 s9 s12 wx => ∃ (R1 : List Row) (K1 T1 : List Int) (ad2 : Int) (age : Bool) (E1 : List Ent), KtP s7 s8 K1 T1 E1 ∧ s9 = .int .i64 ad2 ∧ s12 = .bool age ∧ Tm wd c (j + 1) R1 K1 T1 ad2 age ∧ Own w wx (SkE gs gr cp c (if age then 0 else ad2) R1 ++ (E1 ++ ([((gc, CellsP 38 [.int .u8 kd, .int .u64 key]) : Ent)] ++ [((ga, CellsP 23 (mkl rows wd c)) : Ent)]))))
      case first =>
        rcases hm3 with rfl | rfl | rfl
        · go_upto_region 17 with (first | ((with_reducible refine gate_load 5 rfl ?_); refine li_loadAt 5 rfl rfl rfl (HO.cellM xm_x 0 rfl) (by kernel_rfl) ?_) | ((with_reducible refine gate_load 36 rfl ?_); refine li_loadAt 36 rfl rfl rfl (HO.cellM xm_x 1 rfl) (by kernel_rfl) ?_) | (go_at_call 13; (refine (Add_any key HO k1 k2 HS.out HB.out (by omega) (by omega) (by omega) (by omega)).mono ?_); rintro e w4 ⟨rfl, HO1⟩; clear HO; have HO := HO1; clear HO1))
          have hwa : IntKind.i64.wrap (ad + 1) = ad + 1 := IntWalk.i64_in _ (by omega)
          have hadif : Sk.adds c ad = if (ad + 1 == c) = true then 0 else ad + 1 := by
            unfold Sk.adds
            by_cases e : ad + 1 < c
            · rw [if_pos e, if_neg (by simp; omega)]
            · rw [if_neg e, if_pos (by simp; omega)]
          have HAD := Lib.hid hadif
          clear hadif
          obtain ⟨AG, hAG⟩ : ∃ AG, (ad + 1 == c) = AG := ⟨_, rfl⟩
          rcases HE.out with ⟨rfl, rfl, rfl, rfl, rfl⟩ | ⟨N, g1, g2, c1, c2, h1, h2, h3, rfl, rfl, rfl⟩
          · go_wp2_with (fail)
            go_loopg [13, 71] 0 (fun k v13 v71 wr => v13 = .int .i64 (-1) ∧ v71 = .int .i64 0 ∧ k = 0 ∧ Own w wr (SkE gs gr cp c (Sk.adds c ad) (Sk.added c ad key R) ++ ([] ++ ([((gc, CellsP 38 [.int .u8 kd, .int .u64 key]) : Ent)] ++ [((ga, CellsP 23 (mkl rows wd c)) : Ent)]))))
            case atStart => exact ⟨rfl, by rfl, by omega, HO⟩
            case round =>
              clear HO
              obtain ⟨rfl, rfl, hk0, HO⟩ := hrel
              have HM := Lib.hid (show ((ga, CellsP 23 (mkl rows wd c)) : Ent) ∈ _ from xm_m (A := SkE gs gr cp c (Sk.adds c ad) (Sk.added c ad key R)) (E := []) (x := (gc, CellsP 38 [.int .u8 kd, .int .u64 key])))
              have HO1 := HO
              go_upto_region 24 with (fail)
              go_upto_region 25 with (first | ((with_reducible refine gate_load 36 rfl ?_); refine li_loadAt 36 rfl rfl rfl (HO.cellM xm_x 1 rfl) (by kernel_rfl) ?_) | (refine li_bsliceInt 43 36 el43 rfl rfl rfl HO ?_; clear HO; intro gn w1 HO) | (refine li_append_nil1 el43 rfl rfl rfl HO rfl rfl rfl (by decide) (by decide) (by decide) ?_; clear HO; intro gK cK wq hcK HO) | (refine li_bsliceInt 33 3 el33 rfl rfl rfl HO ?_; clear HO; intro gn w1 HO) | (refine li_append_nil1 el33 rfl rfl rfl HO rfl rfl rfl (by decide) (by decide) (by decide) ?_; clear HO; intro gT cT wq hcT HO))
              clear HO1
              go_wp2_with (first | ((with_reducible refine gate_load 3 rfl ?_); refine li_loadRow 0 3 rfl rfl (off := 0) rfl HO rfl rfl (by kernel_rfl) ?_) | ((with_reducible refine gate_store 3 rfl ?_); refine li_storeRowInt 0 rfl rfl rfl (off := 0) rfl HO rfl rfl (by simp) (by kernel_rfl) ?_; clear HO; intro ws2 HO; simp only [List.set_cons_zero] at HO) | ((with_reducible refine gate_load 2 rfl ?_); refine li_loadAt 2 rfl rfl rfl (HO.cellM (.tail _ (.tail _ HM.out)) 2 rfl) (by kernel_rfl) ?_))
              have HO2 := HO.front 1 rfl
              simp only [List.eraseIdx_cons_succ, List.eraseIdx_cons_zero] at HO2
              have HO3 := Own.mid (A := [_, _]) (B := SkE gs gr cp c (Sk.adds c ad) (Sk.added c ad key R)) (L := ([((gc, CellsP 38 [.int .u8 kd, .int .u64 key]) : Ent)] ++ [((ga, CellsP 23 (mkl rows wd c)) : Ent)])) HO2
              go_meet
              refine ⟨Sk.added c ad key R, [] ++ [key], ([] ++ [(0 : Int)]).set 0 (0 + 1), ad + 1, AG, [_, _], .inr ⟨1, gK, gT, cK, cT, rfl, rfl, by omega, rfl, rfl, rfl⟩, rfl, rfl, ?_, ?_⟩
              · rw [← hAG]
                exact HP.out.addm rfl (by simp) (by simpa using ⟨k1, k2⟩) (Sk.cov_new HS.out HB.out rfl HP.out.cov (by omega)) (i := 0) rfl rfl
              · have := HAD.out
                rw [hAG] at this
                rw [← this]
                exact HO3
          · have HKB := Lib.hid HP.out.kb
            have hNb : N ≤ 100 := by omega
            have H1 := Lib.hid h1
            have H2 := Lib.hid h2
            replace HO := HO.mid
            clear h1 h2
            go_wp2_with (fail)
            go_loopg [13, 71] N (fun k v13 v71 wr => ∃ (i : Nat) (at_ : Int), v71 = .int .i64 (i : Int) ∧ v13 = .int .i64 at_ ∧ i ≤ N ∧ k = N - i ∧ (at_ = -1 ∨ ∃ a : Nat, at_ = (a : Int) ∧ a < N ∧ K[a]? = some key) ∧ Own w wr ((g1, RowP 36 1 c1 (u64s K)) :: (g2, RowP 3 1 c2 (cells64 T)) :: (SkE gs gr cp c (Sk.adds c ad) (Sk.added c ad key R) ++ ([((gc, CellsP 38 [.int .u8 kd, .int .u64 key]) : Ent)] ++ [((ga, CellsP 23 (mkl rows wd c)) : Ent)]))))
            case atStart => exact ⟨0, -1, by rfl, rfl, by omega, by omega, .inl rfl, HO⟩
            case round =>
              clear HO
              obtain ⟨i, at_, rfl, rfl, i1, hki, hat, HO⟩ := hrel
              rcases Nat.lt_or_ge i N with hi | hi
              · have hd5 : decide ((i : Int) < (N : Int)) = true := decide_eq_true (by omega)
                have hw2 : IntKind.i64.wrap ((i : Int) + 1) = ((i + 1 : Nat) : Int) := by rw [IntWalk.i64_in _ (by omega)]; rfl
                have hi0 : (0 : Int) ≤ (i : Int) := by omega
                have hi1 : (i : Int) < (N : Int) := by omega
                obtain ⟨k', hk'⟩ : ∃ k', K[i]? = some k' := ⟨_, List.getElem?_eq_getElem (by have := H1.out; omega)⟩
                have hget := Lib.hid (show (u64s K)[i]? = some (.int .u64 k') by simp [u64s, hk'])
                have HAT := Lib.hid hat
                have HK' := Lib.hid hk'
                obtain ⟨kb0, kb1⟩ := HKB.out k' (List.mem_of_getElem? hk')
                have HX := Lib.hid (show ((gc, CellsP 38 [.int .u8 kd, .int .u64 key]) : Ent) ∈ _ from xm_x (A := SkE gs gr cp c (Sk.adds c ad) (Sk.added c ad key R)) (E := []) (m := ((ga, CellsP 23 (mkl rows wd c)) : Ent)))
                clear hat hk'
                by_cases e : k' = key
                · have he : (k' == key) = true := by simp [e]
                  have HEQ := Lib.hid e
                  clear e
                  go_wp2_with (first | ((with_reducible refine gate_load 36 rfl ?_); refine li_loadRow 0 36 rfl rfl (off := i) rfl HO rfl hget.out (by kernel_rfl) ?_) | ((with_reducible refine gate_load 36 rfl ?_); refine li_loadAt 36 rfl rfl rfl (HO.cellM (.tail _ (.tail _ HX.out)) 1 rfl) (by kernel_rfl) ?_))
                  go_roundg (N - (i + 1))
                  case measure => omega
                  case rel => exact ⟨i + 1, i, rfl, rfl, by omega, rfl, .inr ⟨i, rfl, hi, by rw [HK'.out, HEQ.out]⟩, HO⟩
                · have he : (k' == key) = false := by simp [e]
                  clear e
                  go_wp2_with (first | ((with_reducible refine gate_load 36 rfl ?_); refine li_loadRow 0 36 rfl rfl (off := i) rfl HO rfl hget.out (by kernel_rfl) ?_) | ((with_reducible refine gate_load 36 rfl ?_); refine li_loadAt 36 rfl rfl rfl (HO.cellM (.tail _ (.tail _ HX.out)) 1 rfl) (by kernel_rfl) ?_))
                  go_roundg (N - (i + 1))
                  case measure => omega
                  case rel => exact ⟨i + 1, at_, rfl, rfl, by omega, rfl, HAT.out, HO⟩
              · obtain rfl : i = N := by omega
                have hd5 : decide ((i : Int) < (i : Int)) = false := by simp
                have HM := Lib.hid (show ((ga, CellsP 23 (mkl rows wd c)) : Ent) ∈ _ from xm_m (A := SkE gs gr cp c (Sk.adds c ad) (Sk.added c ad key R)) (E := []) (x := (gc, CellsP 38 [.int .u8 kd, .int .u64 key])))
                have HX := Lib.hid (show ((gc, CellsP 38 [.int .u8 kd, .int .u64 key]) : Ent) ∈ _ from xm_x (A := SkE gs gr cp c (Sk.adds c ad) (Sk.added c ad key R)) (E := []) (m := ((ga, CellsP 23 (mkl rows wd c)) : Ent)))
                rcases hat with rfl | ⟨a, rfl, ha, hka⟩
                · have HL1 := Lib.hid (show (u64s K).length = i * 1 by rw [u64s_len, H1.out]; omega)
                  have HL2 := Lib.hid (show (cells64 T).length = i * 1 by rw [cells64_len, H2.out]; omega)
                  have hg0 := Lib.hid (show (cells64 T ++ [Value.int .i64 0])[i]? = some (.int .i64 0) by rw [List.getElem?_append_right (by rw [cells64_len, H2.out]; omega)]; simp [cells64_len, H2.out])
                  have hgl := Lib.hid (show i < (cells64 T ++ [Value.int .i64 0]).length by simp [cells64_len, H2.out])
                  have hi0 : (0 : Int) ≤ (i : Int) := by omega
                  have hi1 : (i : Int) < ((i : Int) + 1) := by omega
                  have hmx : maxLen = 9223372036854775807 := rfl
                  have HX2 := Lib.hid (show i + 1 ≤ maxLen by omega)
                  clear hmx
                  go_upto_region 25 with (first | ((with_reducible refine gate_load 36 rfl ?_); refine li_loadAt 36 rfl rfl rfl (HO.cellM (.tail _ (.tail _ HX.out)) 1 rfl) (by kernel_rfl) ?_) | (refine li_bsliceInt 43 36 el43 rfl rfl rfl HO ?_; clear HO; intro gn w1 HO) | (refine li_append_row1 0 el43 rfl rfl rfl HO rfl HL1.out rfl rfl rfl (by decide) HX2.out (by omega) ?_; clear HO; intro gK cK wq hcK HO; simp only [List.eraseIdx_cons_succ, List.eraseIdx_cons_zero] at HO) | (refine li_bsliceInt 33 3 el33 rfl rfl rfl HO ?_; clear HO; intro gn w1 HO) | (refine li_append_row1 1 el33 rfl rfl rfl HO rfl HL2.out rfl rfl rfl (by decide) HX2.out (by omega) ?_; clear HO; intro gT cT wq hcT HO; simp only [List.eraseIdx_cons_succ, List.eraseIdx_cons_zero] at HO))
                  go_wp2_with (first | ((with_reducible refine gate_load 3 rfl ?_); refine li_loadRow 0 3 rfl rfl (off := i) rfl HO rfl hg0.out (by kernel_rfl) ?_) | ((with_reducible refine gate_store 3 rfl ?_); refine li_storeRowInt 0 rfl rfl rfl (off := i) rfl HO rfl rfl hgl.out (by kernel_rfl) ?_; clear HO; intro ws2 HO; simp only [List.set_cons_zero] at HO) | ((with_reducible refine gate_load 2 rfl ?_); refine li_loadAt 2 rfl rfl rfl (HO.cellM (.tail _ (.tail _ HM.out)) 2 rfl) (by kernel_rfl) ?_))
                  have hK1 : u64s K ++ [Value.int .u64 key] = u64s (K ++ [key]) := by simp [u64s]
                  have hT1 : (cells64 T ++ [Value.int .i64 0]).set i (.int .i64 1) = cells64 ((T ++ [0]).set i (0 + 1)) := by simp [cells64, List.map_set]
                  rw [hK1, hT1] at HO
                  have HO2 := HO.front 1 rfl
                  simp only [List.eraseIdx_cons_succ, List.eraseIdx_cons_zero] at HO2
                  have HO3 := Own.mid (A := [_, _]) (B := SkE gs gr cp c (Sk.adds c ad) (Sk.added c ad key R)) (L := ([((gc, CellsP 38 [.int .u8 kd, .int .u64 key]) : Ent)] ++ [((ga, CellsP 23 (mkl rows wd c)) : Ent)])) HO2
                  go_meet
                  refine ⟨Sk.added c ad key R, K ++ [key], (T ++ [0]).set i (0 + 1), ad + 1, AG, [_, _], .inr ⟨i + 1, gK, gT, cK, cT, by simp [H1.out], by simp [H2.out], by omega, rfl, rfl, rfl⟩, rfl, rfl, ?_, ?_⟩
                  · rw [← hAG]
                    exact HP.out.addm (by simp [H1.out, H2.out]) (by have := HP.out.few; simp; omega) (fun k hk => by
                      rcases List.mem_append.1 hk with hk | hk
                      · exact HKB.out k hk
                      · rw [List.mem_singleton.1 hk]; exact ⟨k1, k2⟩) (Sk.cov_new HS.out HB.out HP.out.eq HP.out.cov (by omega)) (i := i) (by rw [List.getElem?_append_right (by have := H1.out; omega)]; simp [H1.out]) (by rw [List.getElem?_append_right (by have := H2.out; omega)]; simp [H2.out])
                  · have := HAD.out
                    rw [hAG] at this
                    rw [← this]
                    exact HO3
                · obtain ⟨t, ht⟩ : ∃ t, T[a]? = some t := ⟨_, List.getElem?_eq_getElem (by have := H2.out; omega)⟩
                  obtain ⟨t0, t1, _⟩ := HP.out.cov a key t hka ht
                  have hg0 := Lib.hid (show (cells64 T)[a]? = some (.int .i64 t) by simp [cells64, ht])
                  have hgl := Lib.hid (show a < (cells64 T).length by rw [cells64_len, H2.out]; exact ha)
                  have hwt : IntKind.i64.wrap (t + 1) = t + 1 := IntWalk.i64_in _ (by omega)
                  have ha0 : (0 : Int) ≤ (a : Int) := by omega
                  have ha1 : (a : Int) < (i : Int) := by omega
                  have hda : decide ((a : Int) < 0) = false := decide_eq_false (by omega)
                  have HKA := Lib.hid hka
                  have HT := Lib.hid ht
                  clear hka ht
                  go_wp2_with (first | ((with_reducible refine gate_load 3 rfl ?_); refine li_loadRow 1 3 rfl rfl (off := a) rfl HO rfl hg0.out (by kernel_rfl) ?_) | ((with_reducible refine gate_store 3 rfl ?_); refine li_storeRowInt 1 rfl rfl rfl (off := a) rfl HO rfl rfl hgl.out (by kernel_rfl) ?_; clear HO; intro ws2 HO; simp only [List.set_cons_zero, List.set_cons_succ] at HO) | ((with_reducible refine gate_load 2 rfl ?_); refine li_loadAt 2 rfl rfl rfl (HO.cellM (.tail _ (.tail _ HM.out)) 2 rfl) (by kernel_rfl) ?_))
                  have hT1 : (cells64 T).set a (.int .i64 (t + 1)) = cells64 (T.set a (t + 1)) := by simp [cells64, List.map_set]
                  rw [hT1] at HO
                  have HO3 := Own.mid (A := [_, _]) (B := SkE gs gr cp c (Sk.adds c ad) (Sk.added c ad key R)) (L := ([((gc, CellsP 38 [.int .u8 kd, .int .u64 key]) : Ent)] ++ [((ga, CellsP 23 (mkl rows wd c)) : Ent)])) HO
                  go_meet
                  refine ⟨Sk.added c ad key R, K, T.set a (t + 1), ad + 1, AG, [_, _], .inr ⟨i, g1, g2, c1, c2, H1.out, by simp [H2.out], h3, rfl, rfl, rfl⟩, rfl, rfl, ?_, ?_⟩
                  · rw [← hAG]
                    exact HP.out.addm HP.out.eq (by have := HP.out.few; omega) HKB.out HP.out.cov (i := a) HKA.out HT.out
                  · have := HAD.out
                    rw [hAG] at this
                    rw [← this]
                    exact HO3
        · go_wp2_with (first | (go_at_call 15; (refine (Age_any HO HS.out HB.out (by omega)).mono ?_); rintro e w4 ⟨rfl, HO1⟩; clear HO; have HO := HO1; clear HO1))
          go_meet
          exact ⟨Sk.halve R, K, T, ad, true, E, HE.out, rfl, rfl, HP.out.agem, HO⟩
        · go_wp2_with (fail)
          go_meet
          exact ⟨R, K, T, ad, false, E, HE.out, rfl, rfl, HP.out.staym, HO⟩
      case rest =>
        obtain ⟨R1, K1, T1, ad2, age, E1, hE1, rfl, rfl, hM, HO⟩ := hcut
        go_upto_if 109 with (fail)
        go_cut [9] (fun s9 wx => ∃ (T2 : List Int) (ad3 : Int) (E2 : List Ent), s9 = .int .i64 ad3 ∧ KtP u7 u8 K1 T2 E2 ∧ Tr rows wd c (j + 1) R1 K1 T2 ad3 ∧ Own w wx (SkE gs gr cp c ad3 R1 ++ (E2 ++ ([((gc, CellsP 38 [.int .u8 kd, .int .u64 key]) : Ent)] ++ [((ga, CellsP 23 (mkl rows wd c)) : Ent)]))))
        case first =>
          cases age with
          | false =>
            go_wp2_with (fail)
            go_meet
            exact ⟨T1, ad2, E1, rfl, hE1, hM.on, HO⟩
          | true =>
            have HM := Lib.hid (hM.half (rows := rows) r5)
            have HTB := Lib.hid hM.tb
            rcases hE1 with ⟨rfl, rfl, rfl, rfl, rfl⟩ | ⟨N, g1, g2, c1, c2, h1, h2, h3, rfl, rfl, rfl⟩
            · clear hM
              go_wp2_with (fail)
              go_loopg [112] 0 (fun k v wr => v = .int .i64 0 ∧ k = 0 ∧ Own w wr (SkE gs gr cp c 0 R1 ++ ([] ++ ([((gc, CellsP 38 [.int .u8 kd, .int .u64 key]) : Ent)] ++ [((ga, CellsP 23 (mkl rows wd c)) : Ent)]))))
              case atStart => exact ⟨by rfl, by omega, HO⟩
              case round =>
                clear HO
                obtain ⟨rfl, hk0, HO⟩ := hrel
                go_wp2_with (fail)
                go_meet
                exact ⟨[], 0, [], rfl, .inl ⟨rfl, rfl, rfl, rfl, rfl⟩, HM.out, HO⟩
            · have hfw := hM.few
              have hNb : N ≤ 101 := by omega
              have H1 := Lib.hid h1
              have H2 := Lib.hid h2
              clear hM h1 h2
              have HO1 := Own.mid (A := SkE gs gr cp c 0 R1) (B := [(g1, RowP 36 1 c1 (u64s K1)), (g2, RowP 3 1 c2 (cells64 T1))]) (L := ([((gc, CellsP 38 [.int .u8 kd, .int .u64 key]) : Ent)] ++ [((ga, CellsP 23 (mkl rows wd c)) : Ent)])) HO
              clear HO; have HO := HO1; clear HO1
              go_wp2_with (fail)
              go_loopg [112] N (fun k v wr => ∃ i : Nat, v = .int .i64 (i : Int) ∧ i ≤ N ∧ k = N - i ∧ Own w wr ((g1, RowP 36 1 c1 (u64s K1)) :: (g2, RowP 3 1 c2 (cells64 (Sk.hlf i T1))) :: (SkE gs gr cp c 0 R1 ++ ([((gc, CellsP 38 [.int .u8 kd, .int .u64 key]) : Ent)] ++ [((ga, CellsP 23 (mkl rows wd c)) : Ent)]))))
              case atStart => exact ⟨0, by rfl, by omega, by omega, by rw [Sk.hlf_zero]; exact HO⟩
              case round =>
                clear HO
                obtain ⟨i, rfl, i1, hki, HO⟩ := hrel
                rcases Nat.lt_or_ge i N with hi | hi
                · have hd5 : decide ((i : Int) < (N : Int)) = true := decide_eq_true (by omega)
                  have hw2 : IntKind.i64.wrap ((i : Int) + 1) = ((i + 1 : Nat) : Int) := by rw [IntWalk.i64_in _ (by omega)]; rfl
                  have hi0 : (0 : Int) ≤ (i : Int) := by omega
                  have hi1 : (i : Int) < (N : Int) := by omega
                  have hml : i < T1.length := by rw [H2.out]; exact hi
                  obtain ⟨v, hv⟩ : ∃ v, T1[i] = v := ⟨_, rfl⟩
                  obtain ⟨v1, v2⟩ := HTB.out v (by rw [← hv]; exact List.getElem_mem hml)
                  have hget := Lib.hid (show (cells64 (Sk.hlf i T1))[i]? = some (.int .i64 v) by simp [cells64, Sk.hlf_at hml, hv])
                  have hq0 : v.tdiv 2 = v / 2 := Int.tdiv_eq_ediv_of_nonneg v1
                  have hq : IntKind.i64.wrap (v / 2) = v / 2 := IntWalk.i64_in _ (by omega)
                  have hsucc := Sk.hlf_succ hml
                  rw [hv] at hsucc
                  have hset := Lib.hid (show (cells64 (Sk.hlf i T1)).set i (.int .i64 (v / 2)) = cells64 (Sk.hlf (i + 1) T1) by rw [← hsucc]; simp [cells64, List.map_set])
                  have hlh := Lib.hid (show i < (cells64 (Sk.hlf i T1)).length by simp [cells64, Sk.hlf_length]; omega)
                  clear hsucc hv
                  go_wp2_with (first | ((with_reducible refine gate_load 3 rfl ?_); refine li_loadRow 1 3 rfl rfl (off := i) rfl HO rfl hget.out (by kernel_rfl) ?_) | ((with_reducible refine gate_store 3 rfl ?_); refine li_storeRowInt 1 rfl rfl rfl (off := i) rfl HO rfl rfl hlh.out (by kernel_rfl) ?_; clear HO; intro ws2 HO; simp only [List.set_cons_zero, List.set_cons_succ] at HO))
                  rw [hset.out] at HO
                  go_roundg (N - (i + 1))
                  case measure => omega
                  case rel => exact ⟨i + 1, rfl, by omega, rfl, HO⟩
                · obtain rfl : i = N := by omega
                  have hd5 : decide ((i : Int) < (i : Int)) = false := by simp
                  have hall : Sk.hlf i T1 = T1.map (· / 2) := by
                    have := Sk.hlf_all T1
                    rw [H2.out] at this
                    exact this
                  rw [hall] at HO
                  have HO3 := Own.mid (A := [_, _]) (B := SkE gs gr cp c 0 R1) (L := ([((gc, CellsP 38 [.int .u8 kd, .int .u64 key]) : Ent)] ++ [((ga, CellsP 23 (mkl rows wd c)) : Ent)])) HO
                  go_wp2_with (fail)
                  go_meet
                  exact ⟨T1.map (· / 2), 0, [_, _], rfl, .inr ⟨i, g1, g2, c1, c2, H1.out, by simp [H2.out], h3, rfl, rfl, rfl⟩, HM.out, HO3⟩
        case rest =>
          clear hE1 hM HO
          obtain ⟨T2, ad3, E2, rfl, hE2, hM, HO⟩ := hcut
          have HE2 := Lib.hid hE2
          have HM := Lib.hid hM
          rcases hE2 with ⟨rfl, rfl, rfl, rfl, rfl⟩ | ⟨N, g1, g2, c1, c2, h1, h2, h3, rfl, rfl, rfl⟩
          · clear hM
            go_wp2_with (fail)
            go_loopg [124] 0 (fun k v wr => v = .int .i64 0 ∧ k = 0 ∧ Own w wr (SkE gs gr cp c ad3 R1 ++ ([] ++ ([((gc, CellsP 38 [.int .u8 kd, .int .u64 key]) : Ent)] ++ [((ga, CellsP 23 (mkl rows wd c)) : Ent)]))))
            case atStart => exact ⟨by rfl, by omega, HO⟩
            case round =>
              clear HO
              obtain ⟨rfl, hk0, HO⟩ := hrel
              go_wp2_with (fail)
              go_roundg (n - (j + 1))
              case measure => omega
              case rel => exact ⟨j + 1, R1, _, _, ad3, _, rfl, by omega, rfl, rfl, HM.out, HE2.out, HO.sub (List.Sublist.append_left (List.Sublist.append_left (List.sublist_append_right _ _) _) _)⟩
          · have hfw := hM.few
            have hNb : N ≤ 101 := by omega
            have H1 := Lib.hid h1
            have H2 := Lib.hid h2
            clear hM h1 h2
            have HO1 := Own.mid (A := SkE gs gr cp c ad3 R1) (B := [(g1, RowP 36 1 c1 (u64s K1)), (g2, RowP 3 1 c2 (cells64 T2))]) (L := ([((gc, CellsP 38 [.int .u8 kd, .int .u64 key]) : Ent)] ++ [((ga, CellsP 23 (mkl rows wd c)) : Ent)])) HO
            clear HO; have HO := HO1; clear HO1
            go_wp2_with (fail)
            go_loopg [124] N (fun k v wr => ∃ i : Nat, v = .int .i64 (i : Int) ∧ i ≤ N ∧ k = N - i ∧ Own w wr ((g1, RowP 36 1 c1 (u64s K1)) :: (g2, RowP 3 1 c2 (cells64 T2)) :: (SkE gs gr cp c ad3 R1 ++ ([((gc, CellsP 38 [.int .u8 kd, .int .u64 key]) : Ent)] ++ [((ga, CellsP 23 (mkl rows wd c)) : Ent)]))))
            case atStart => exact ⟨0, by rfl, by omega, by omega, HO⟩
            case round =>
              clear HO
              obtain ⟨i, rfl, i1, hki, HO⟩ := hrel
              rcases Nat.lt_or_ge i N with hi | hi
              · have hd5 : decide ((i : Int) < (N : Int)) = true := decide_eq_true (by omega)
                have hw2 : IntKind.i64.wrap ((i : Int) + 1) = ((i + 1 : Nat) : Int) := by rw [IntWalk.i64_in _ (by omega)]; rfl
                have hi0 : (0 : Int) ≤ (i : Int) := by omega
                have hi1 : (i : Int) < (N : Int) := by omega
                obtain ⟨k', hk'⟩ : ∃ k', K1[i]? = some k' := ⟨_, List.getElem?_eq_getElem (by have := H1.out; omega)⟩
                obtain ⟨t, ht⟩ : ∃ t, T2[i]? = some t := ⟨_, List.getElem?_eq_getElem (by have := H2.out; omega)⟩
                obtain ⟨kb0, kb1⟩ := HM.out.kb k' (List.mem_of_getElem? hk')
                obtain ⟨t0, t1, t2⟩ := HM.out.cov i k' t hk' ht
                have hcg := Sk.count_ge HM.out.shape t2
                have hget := Lib.hid (show (u64s K1)[i]? = some (.int .u64 k') by simp [u64s, hk'])
                have hgt := Lib.hid (show (cells64 T2)[i]? = some (.int .i64 t) by simp [cells64, ht])
                obtain ⟨C, hC⟩ : ∃ C, Sk.count k' R1 = C := ⟨_, rfl⟩
                rw [hC] at hcg
                have hdc : decide (C < t) = false := decide_eq_false (by omega)
                have Q1 := Lib.hid (fun n => quiet_eq (Count_any k' (Own.mid (A := [_, _]) (B := SkE gs gr cp c ad3 R1) (L := ([((gc, CellsP 38 [.int .u8 kd, .int .u64 key]) : Ent)] ++ [((ga, CellsP 23 (mkl rows wd c)) : Ent)])) (HO.drewN n)) kb0 kb1 HM.out.shape))
                rw [hC] at Q1
                have hct : wr.cell? ⟨g2, i, none⟩ = some (.int .i64 t) := HO.rowCell 1 rfl i hgt.out
                clear hk' ht t2 hC
                go_upto_region 40 with ((with_reducible refine gate_load 36 rfl ?_); refine li_loadRow 0 36 rfl rfl (off := i) rfl HO rfl hget.out (by kernel_rfl) ?_)
                go_quiet ((go_at_call 17; exact Q1.out _))
                go_wp2_with (fail)
                go_roundg (N - (i + 1))
                case measure => omega
                case rel => exact ⟨i + 1, rfl, by omega, rfl, HO.drewN _⟩
              · obtain rfl : i = N := by omega
                have hd5 : decide ((i : Int) < (i : Int)) = false := by simp
                have HO3 := Own.mid (A := [_, _]) (B := SkE gs gr cp c ad3 R1) (L := ([((gc, CellsP 38 [.int .u8 kd, .int .u64 key]) : Ent)] ++ [((ga, CellsP 23 (mkl rows wd c)) : Ent)])) HO
                go_wp2_with (fail)
                go_roundg (n - (j + 1))
                case measure => omega
                case rel => exact ⟨j + 1, R1, _, _, ad3, _, rfl, by omega, rfl, rfl, HM.out, HE2.out, HO3.sub (List.Sublist.append_left (List.Sublist.append_left (List.sublist_append_right _ _) _) _)⟩
    · obtain rfl : j = n := by omega
      have hd4 : decide ((j : Int) < (j : Int)) = false := by simp
      go_wp2_with (go_at_call 9; (refine (awake_any HO).mono ?_); rintro e w2 ⟨rfl, HO1⟩; clear HO; have HO := HO1; clear HO1)
      go_ret
      exact ⟨rfl, HO.below⟩
end Go.Proofs.Ytdjcgfknlhijiaa

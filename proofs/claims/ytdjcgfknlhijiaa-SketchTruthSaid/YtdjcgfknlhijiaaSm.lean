/- What the law on the order of adds computes. -/
import Derived.Test.YtdjcgfknlhijiaaSk
import Derived.Test.YtdjcgfknlhijiaaSl
import Derived.Test.YtdjcgfknlhijiaaG
import Derived.OpenShut
namespace Go.Proofs.Ytdjcgfknlhijiaa
set_option linter.unusedVariables false
set_option linter.unusedSimpArgs false
set_option linter.unnecessarySimpa false
open Go.RowKit Go.Proofs.YtdjcgfknlhijiaaW.PrintLast
theorem Own.mid {w0 w : World} {A B L : List Ent} (h : Own w0 w (A ++ (B ++ L))) : Own w0 w (B ++ (A ++ L)) := h.perm (by
  rw [← List.append_assoc, ← List.append_assoc]
  exact List.perm_append_comm.append_right L)
theorem u64_open {H : Type} {enc : TypeId × Value → H} {P : Program} {w : World} {base : Nat} {spare : Nat → Bool} {held : Bool} {e : TypeId} (he : P.underlying e = some (.int .u64)) :
    ∀ n cs y, cs.length = 1 → DataW.trod enc P w base spare held n e cs = some y → ∃ q : {k : Int // 0 ≤ k ∧ k < 18446744073709551616}, cs = [.int .u64 q.1] := by
  intro n cs y _ h
  obtain ⟨m, e1, _, hw⟩ := DataW.trod_int he h
  exact ⟨⟨m, (bounds_u64 hw).1, by have := (bounds_u64 hw).2; omega⟩, e1⟩
def keyRow (k : Int) : List Value := [.int .u64 k]
theorem argS_one {w : World} {v : Value} {keys : List Int} (h : ArgS w 1 v (keys.map keyRow)) : ∃ (ao : Option Addr) (cap : Nat), v = .slice ao keys.length cap ∧ keys.length ≤ maxLen ∧ ∀ (i : Nat) (k : Int), keys[i]? = some k → ∃ a, ao = some a ∧ w.cell? (a.add i) = some (.int .u64 k) := by
  obtain ⟨ao, cap, rfl, h1, h2, h3⟩ := h
  refine ⟨ao, cap, by simp, by simp at h1; omega, fun i k hk => ?_⟩
  obtain ⟨a, rfl, hc⟩ := h3 i (keyRow k) (by simp [hk])
  refine ⟨a, rfl, ?_⟩
  have := hc 0 (.int .u64 k) rfl
  simpa [Addr.add] using this
set_option maxRecDepth 20000 in
set_option maxHeartbeats 16000000 in
theorem SketchOrder_any (a b c t : Int) (l : Value) (keys : List Int) (w : World) (t1 : 0 ≤ t) (t2 : t ≤ 255) (hk : ∀ k ∈ keys, 0 ≤ k ∧ k < 18446744073709551616) (hl : ArgS w 1 l (keys.map keyRow)) :
    Calls Try.prog 7 #[.agg #[.int .i64 a, .int .i64 b, .int .i64 c], l, .int .u8 t] w fun e w' => e = .returned (.bool true) ∧ Below w.heap.size w w' := by
  have HO := Own.nil w
  obtain ⟨ao, cap, rfl, hml, hrd⟩ := argS_one hl
  clear hl
  have hmx : maxLen = 9223372036854775807 := rfl
  obtain ⟨B, hB⟩ : ∃ B, Sk.hw b = B := ⟨_, rfl⟩
  have hle := Sk.hw_le b
  rw [hB] at hle
  obtain ⟨n, hn⟩ : ∃ n, keys.length = n := ⟨_, rfl⟩
  rw [hn] at hml ⊢
  by_cases hbig : 60 < n
  · have hd : decide ((60 : Int) < (n : Int)) = true := decide_eq_true (by omega)
    go_enter Try.func7, Try.ntmps7
    go_wp2_with (first | (refine li_boxAgg 23 rfl rfl rfl HO ?_; clear HO; intro gb wb HO) | ((with_reducible refine gate_load 23 rfl ?_); first | (refine li_loadWhole 0 23 3 rfl rfl rfl HO rfl rfl (by kernel_rfl) (by kernel_rfl) (by kernel_rfl) ?_)) | ((with_reducible refine gate_store 23 rfl ?_); first | (refine li_storeAgg 0 23 rfl rfl rfl rfl HO rfl rfl rfl rfl (by kernel_rfl) ?_; clear HO; intro ws HO; (try simp only [List.set_cons_zero, List.set_cons_succ] at HO))) | ((with_reducible refine gate_load 3 rfl ?_); first | (refine li_load 0 3 rfl rfl rfl HO rfl rfl (by kernel_rfl) ?_)) | ((with_reducible refine gate_load 2 rfl ?_); first | (refine li_load 0 2 rfl rfl rfl HO rfl rfl (by kernel_rfl) ?_)) | ((with_reducible refine gate_load 36 rfl ?_); first | (refine li_load 0 36 rfl rfl rfl HO rfl rfl (by kernel_rfl) ?_)) | (go_at_call 10; refine (held_any _ b c _).mono ?_; rw [hB]; rintro e w1 ⟨rfl, hb⟩; replace HO := HO.next hb; clear hb) | (go_at_call 9; refine (awake_any HO).mono ?_; rintro e w2 ⟨rfl, HO1⟩; clear HO; have HO := HO1; clear HO1))
    go_ret
    exact ⟨rfl, HO.below⟩
  have hd : decide ((60 : Int) < (n : Int)) = false := decide_eq_false (by omega)
  rcases Bool.eq_false_or_eq_true (Sk.right a B c) with hr | hr
  rotate_left
  · have H := Lib.hid hr
    clear hr
    go_enter Try.func7, Try.ntmps7
    go_wp2_with (first | (refine li_boxAgg 23 rfl rfl rfl HO ?_; clear HO; intro gb wb HO) | ((with_reducible refine gate_load 23 rfl ?_); first | (refine li_loadWhole 0 23 3 rfl rfl rfl HO rfl rfl (by kernel_rfl) (by kernel_rfl) (by kernel_rfl) ?_)) | ((with_reducible refine gate_store 23 rfl ?_); first | (refine li_storeAgg 0 23 rfl rfl rfl rfl HO rfl rfl rfl rfl (by kernel_rfl) ?_; clear HO; intro ws HO; (try simp only [List.set_cons_zero, List.set_cons_succ] at HO))) | ((with_reducible refine gate_load 3 rfl ?_); first | (refine li_load 0 3 rfl rfl rfl HO rfl rfl (by kernel_rfl) ?_)) | ((with_reducible refine gate_load 2 rfl ?_); first | (refine li_load 0 2 rfl rfl rfl HO rfl rfl (by kernel_rfl) ?_)) | ((with_reducible refine gate_load 36 rfl ?_); first | (refine li_load 0 36 rfl rfl rfl HO rfl rfl (by kernel_rfl) ?_)) | (go_at_call 10; refine (held_any _ b c _).mono ?_; rw [hB]; rintro e w1 ⟨rfl, hb⟩; replace HO := HO.next hb; clear hb) | (go_at_call 12; refine (Right_any _ _ _ _).mono ?_; rw [H.out]; rintro e w2 ⟨rfl, rfl⟩) | (go_at_call 9; refine (awake_any HO).mono ?_; rintro e w2 ⟨rfl, HO1⟩; clear HO; have HO := HO1; clear HO1))
    go_ret
    exact ⟨rfl, HO.below⟩
  obtain ⟨r1, r2, r3, r4, r5, r6⟩ : 1 ≤ a ∧ a ≤ 8 ∧ 1 ≤ B ∧ B ≤ 65536 ∧ 1 ≤ c ∧ c ≤ 1099511627776 := by unfold Sk.right at hr; simp at hr; omega
  have H := Lib.hid hr
  clear hr
  by_cases hc : c ≤ 60
  · have hd3 : decide (c ≤ 60) = true := decide_eq_true hc
    go_enter Try.func7, Try.ntmps7
    go_wp2_with (first | (refine li_boxAgg 23 rfl rfl rfl HO ?_; clear HO; intro gb wb HO) | ((with_reducible refine gate_load 23 rfl ?_); first | (refine li_loadWhole 0 23 3 rfl rfl rfl HO rfl rfl (by kernel_rfl) (by kernel_rfl) (by kernel_rfl) ?_)) | ((with_reducible refine gate_store 23 rfl ?_); first | (refine li_storeAgg 0 23 rfl rfl rfl rfl HO rfl rfl rfl rfl (by kernel_rfl) ?_; clear HO; intro ws HO; (try simp only [List.set_cons_zero, List.set_cons_succ] at HO))) | ((with_reducible refine gate_load 3 rfl ?_); first | (refine li_load 0 3 rfl rfl rfl HO rfl rfl (by kernel_rfl) ?_)) | ((with_reducible refine gate_load 2 rfl ?_); first | (refine li_load 0 2 rfl rfl rfl HO rfl rfl (by kernel_rfl) ?_)) | ((with_reducible refine gate_load 36 rfl ?_); first | (refine li_load 0 36 rfl rfl rfl HO rfl rfl (by kernel_rfl) ?_)) | (go_at_call 10; refine (held_any _ b c _).mono ?_; rw [hB]; rintro e w1 ⟨rfl, hb⟩; replace HO := HO.next hb; clear hb) | (go_at_call 12; refine (Right_any _ _ _ _).mono ?_; rw [H.out]; rintro e w2 ⟨rfl, rfl⟩) | (go_at_call 9; refine (awake_any HO).mono ?_; rintro e w2 ⟨rfl, HO1⟩; clear HO; have HO := HO1; clear HO1))
    go_ret
    exact ⟨rfl, HO.below⟩
  have hd3 : decide (c ≤ 60) = false := decide_eq_false hc
  obtain ⟨rows, rfl⟩ : ∃ r : Nat, a = r := ⟨a.toNat, by omega⟩
  obtain ⟨wd, rfl⟩ : ∃ r : Nat, B = r := ⟨B.toNat, by omega⟩
  have hwt : IntKind.i64.wrap t = t := IntWalk.i64_in _ (by omega)
  go_enter Try.func7, Try.ntmps7
  go_wp2_with (first | (refine li_boxAgg 23 rfl rfl rfl HO ?_; clear HO; intro gb wb HO) | ((with_reducible refine gate_load 23 rfl ?_); first | (refine li_loadWhole 0 23 3 rfl rfl rfl HO rfl rfl (by kernel_rfl) (by kernel_rfl) (by kernel_rfl) ?_)) | ((with_reducible refine gate_store 23 rfl ?_); first | (refine li_storeAgg 0 23 rfl rfl rfl rfl HO rfl rfl rfl rfl (by kernel_rfl) ?_; clear HO; intro ws HO; (try simp only [List.set_cons_zero, List.set_cons_succ] at HO))) | ((with_reducible refine gate_load 3 rfl ?_); first | (refine li_load 0 3 rfl rfl rfl HO rfl rfl (by kernel_rfl) ?_)) | ((with_reducible refine gate_load 2 rfl ?_); first | (refine li_load 0 2 rfl rfl rfl HO rfl rfl (by kernel_rfl) ?_)) | ((with_reducible refine gate_load 36 rfl ?_); first | (refine li_load 0 36 rfl rfl rfl HO rfl rfl (by kernel_rfl) ?_)) | (go_at_call 10; refine (held_any _ b c _).mono ?_; rw [hB]; rintro e w1 ⟨rfl, hb⟩; replace HO := HO.next hb; clear hb) | (go_at_call 12; refine (Right_any _ _ _ _).mono ?_; rw [H.out]; rintro e w2 ⟨rfl, rfl⟩))
  go_at_call 11; refine (SNew_yes rows wd c HO (by omega) (by omega) (by omega) (by omega) (by omega) (by omega)).mono ?_; rintro e w2 ⟨ga, gra, capa, Ra, rfl, HO1, hRa, hza⟩
  clear HO; have HO := HO1.mid (A := SkE ga gra capa c 0 Ra) (B := [_]) (L := []); clear HO1
  go_wp2_with (first | (refine li_boxAgg 23 rfl rfl rfl HO ?_; clear HO; intro gb wb HO) | ((with_reducible refine gate_load 23 rfl ?_); first | (refine li_loadWhole 0 23 3 rfl rfl rfl HO rfl rfl (by kernel_rfl) (by kernel_rfl) (by kernel_rfl) ?_)) | ((with_reducible refine gate_store 23 rfl ?_); first | (refine li_storeAgg 0 23 rfl rfl rfl rfl HO rfl rfl rfl rfl (by kernel_rfl) ?_; clear HO; intro ws HO; (try simp only [List.set_cons_zero, List.set_cons_succ] at HO))) | ((with_reducible refine gate_load 3 rfl ?_); first | (refine li_load 0 3 rfl rfl rfl HO rfl rfl (by kernel_rfl) ?_)) | ((with_reducible refine gate_load 2 rfl ?_); first | (refine li_load 0 2 rfl rfl rfl HO rfl rfl (by kernel_rfl) ?_)) | ((with_reducible refine gate_load 36 rfl ?_); first | (refine li_load 0 36 rfl rfl rfl HO rfl rfl (by kernel_rfl) ?_)))
  go_at_call 11; refine (SNew_yes rows wd c HO (by omega) (by omega) (by omega) (by omega) (by omega) (by omega)).mono ?_; rintro e w3 ⟨g2, gr2, cap2, Rb, rfl, HO1, hRb, hzb⟩
  clear HO; have HO := (HO1.sub (List.Sublist.append_left (List.sublist_append_right _ _) _)).mid; clear HO1
  have hT0 : Sk.tab Rb = Sk.tab Ra := Sk.zero_tab hzb hza (by omega)
  obtain ⟨T0, eT0⟩ : ∃ T0, Sk.tab Ra = T0 := ⟨_, rfl⟩
  rw [eT0] at hT0
  have hSa := Sk.zero_shape hza (by omega) (by omega) (by omega) (by omega)
  have hSb := Sk.zero_shape hzb (by omega) (by omega) (by omega) (by omega)
  have hBa := Sk.zero_bd hza
  have hBb := Sk.zero_bd hzb
  clear hza hzb hRa hRb
  go_wp2_with (fail)
  go_loopg [71] n (fun k v wr => ∃ (j : Nat) (Ra Rb : List Row), v = .int .i64 (j : Int) ∧ j ≤ n ∧ k = n - j ∧ Sk.Shape wd Ra ∧ Sk.Shape wd Rb ∧ Sk.Bd j Ra ∧ Sk.Bd j Rb ∧ Sk.tab Ra = (keys.take j).foldl Sk.tadd T0 ∧ Sk.tab Rb = ((Sk.turned t.toNat keys).take j).foldl Sk.tadd T0 ∧ Own w wr (SkE ga gra capa c j Ra ++ (SkE g2 gr2 cap2 c j Rb ++ [])))
  case atStart => exact ⟨0, Ra, Rb, by rfl, by omega, by omega, hSa, hSb, hBa, hBb, eT0, hT0, HO⟩
  case round =>
    clear HO hSa hSb hBa hBb hT0 eT0
    obtain ⟨j, Ra, Rb, rfl, j1, hkk, hSa, hSb, hBa, hBb, eTa, eTb, HO⟩ := hrel
    rcases Nat.lt_or_ge j n with hj | hj
    · have hd4 : decide ((j : Int) < (n : Int)) = true := decide_eq_true (by omega)
      have hw1 : IntKind.i64.wrap ((j : Int) + 1) = ((j + 1 : Nat) : Int) := by rw [IntWalk.i64_in _ (by omega)]; rfl
      obtain ⟨q, hq⟩ : ∃ q, (n - 1 - j + t.toNat) % n = q := ⟨_, rfl⟩
      have hqn : q < n := by rw [← hq]; exact Nat.mod_lt _ (by omega)
      have hw2 : IntKind.i64.wrap ((n : Int) - 1) = (n : Int) - 1 := IntWalk.i64_in _ (by omega)
      have hw3 : IntKind.i64.wrap ((n : Int) - 1 - j) = (n : Int) - 1 - j := IntWalk.i64_in _ (by omega)
      have hw4 : IntKind.i64.wrap ((n : Int) - 1 - j + t) = (n : Int) - 1 - j + t := IntWalk.i64_in _ (by omega)
      have hw5 : ((n : Int) - 1 - j + t) % n = (q : Int) := by
        rw [← hq, Int.natCast_emod]
        congr 1
        omega
      have hw6 : ((n : Int) - 1 - j + t).tmod n = (q : Int) := by rw [Int.tmod_eq_emod_of_nonneg (by omega), hw5]
      have hb0 : (0 : Int) ≤ (j : Int) := by omega
      have hb1 : (j : Int) < (n : Int) := by omega
      have hb2 : (0 : Int) ≤ (q : Int) := by omega
      have hb3 : (q : Int) < (n : Int) := by omega
      obtain ⟨k1, e1⟩ : ∃ k, keys[j]? = some k := ⟨_, List.getElem?_eq_getElem (by omega)⟩
      obtain ⟨k2, e2⟩ : ∃ k, keys[q]? = some k := ⟨_, List.getElem?_eq_getElem (by omega)⟩
      obtain ⟨p1, p2⟩ := hk k1 (List.mem_of_getElem? e1)
      obtain ⟨p3, p4⟩ := hk k2 (List.mem_of_getElem? e2)
      obtain ⟨ad, rfl, hc1⟩ := hrd j k1 e1
      obtain ⟨ad2, ead, hc2⟩ := hrd q k2 e2
      injection ead with ead
      subst ead
      have s1 : (keys.take (j + 1)).foldl Sk.tadd T0 = Sk.tadd (Sk.tab Ra) k1 := by
        rw [List.take_add_one, e1, List.foldl_append, ← eTa]; rfl
      have s2 : ((Sk.turned t.toNat keys).take (j + 1)).foldl Sk.tadd T0 = Sk.tadd (Sk.tab Rb) k2 := by
        rw [List.take_add_one, Sk.turned_at (by omega), List.foldl_append, ← eTb, hn, hq, List.getD_eq_getElem?_getD, e2]; rfl
      clear hw5
      go_wp2_with (first | (refine li_loadAt 36 rfl rfl rfl (HO.old hc1) (by kernel_rfl) ?_))
      go_at_call 13; refine (Add_under k1 HO p1 p2 hSa hBa (by omega) (by omega) (by omega) (by omega) (by omega)).mono ?_; rintro e w4 ⟨rfl, HO1⟩; clear HO; have HO := HO1.mid; clear HO1
      go_wp2_with (first | (refine li_loadAt 36 rfl rfl rfl (HO.old hc2) (by kernel_rfl) ?_))
      go_at_call 13; refine (Add_under k2 HO p3 p4 hSb hBb (by omega) (by omega) (by omega) (by omega) (by omega)).mono ?_; rintro e w5 ⟨rfl, HO1⟩; clear HO; have HO := HO1.mid; clear HO1
      go_wp2_with (fail)
      go_roundg (n - (j + 1))
      case measure => omega
      case rel => exact ⟨j + 1, _, _, rfl, by omega, rfl, Sk.bumped_shape hSa, Sk.bumped_shape hSb, Sk.bumped_bd hBa (by omega), Sk.bumped_bd hBb (by omega), by rw [s1, Sk.tab_bumped], by rw [s2, Sk.tab_bumped], HO⟩
    · obtain rfl : j = n := by omega
      have hd4 : decide ((j : Int) < (j : Int)) = false := by simp
      have hTT : Sk.tab Ra = Sk.tab Rb := by
        rw [eTa, eTb, List.take_of_length_le (by omega), List.take_of_length_le (by rw [Sk.turned_length]; omega), Sk.turned_sum]
      have hcc := Sk.count_congr hTT
      clear eTa eTb
      go_wp2_with (fail)
      go_loopg [99] j (fun k v wr => ∃ (i : Nat), v = .int .i64 (i : Int) ∧ i ≤ j ∧ k = j - i ∧ Own w wr (SkE ga gra capa c j Ra ++ (SkE g2 gr2 cap2 c j Rb ++ [])))
      case atStart => exact ⟨0, by rfl, by omega, by omega, HO⟩
      case round =>
        clear HO
        obtain ⟨i, rfl, i1, hki, HO⟩ := hrel
        rcases Nat.lt_or_ge i j with hi | hi
        · have hd5 : decide ((i : Int) < (j : Int)) = true := decide_eq_true (by omega)
          have hw7 : IntKind.i64.wrap ((i : Int) + 1) = ((i + 1 : Nat) : Int) := by rw [IntWalk.i64_in _ (by omega)]; rfl
          have hb0 : (0 : Int) ≤ (i : Int) := by omega
          have hb1 : (i : Int) < (j : Int) := by omega
          obtain ⟨k1, e1⟩ : ∃ k, keys[i]? = some k := ⟨_, List.getElem?_eq_getElem (by omega)⟩
          obtain ⟨p1, p2⟩ := hk k1 (List.mem_of_getElem? e1)
          obtain ⟨ad, rfl, hc1⟩ := hrd i k1 e1
          have hck := hcc k1
          obtain ⟨C, hC⟩ : ∃ C, Sk.count k1 Rb = C := ⟨_, rfl⟩
          rw [hC] at hck
          go_wp2_with (first | (refine li_loadAt 36 rfl rfl rfl (HO.old hc1) (by kernel_rfl) ?_))
          go_at_call 17; refine (Count_any k1 HO p1 p2 hSa).mono ?_; rw [hck]; rintro e w4 ⟨rfl, rfl⟩
          go_wp2_with (fail)
          go_at_call 17; refine (Count_any k1 HO.mid p1 p2 hSb).mono ?_; rw [hC]; rintro e w4 ⟨rfl, rfl⟩
          go_wp2_with (fail)
          go_roundg (j - (i + 1))
          case measure => omega
          case rel => exact ⟨i + 1, rfl, by omega, rfl, HO⟩
        · obtain rfl : i = j := by omega
          have hd5 : decide ((i : Int) < (i : Int)) = false := by simp
          go_wp2_with (first | (go_at_call 9; refine (awake_any HO).mono ?_; rintro e w2 ⟨rfl, HO1⟩; clear HO; have HO := HO1; clear HO1))
          go_ret
          exact ⟨rfl, HO.below⟩
end Go.Proofs.Ytdjcgfknlhijiaa

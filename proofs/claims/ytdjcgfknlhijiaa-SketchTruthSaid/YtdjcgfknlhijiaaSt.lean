/- What the law on every sketch computes. -/
import Derived.Test.YtdjcgfknlhijiaaSr
import Derived.Test.YtdjcgfknlhijiaaSs
namespace Go.Proofs.Ytdjcgfknlhijiaa
set_option linter.unusedVariables false
set_option linter.unusedSimpArgs false
set_option linter.unnecessarySimpa false
open Go.RowKit Go.Proofs.YtdjcgfknlhijiaaW.PrintLast
theorem Own.mid2 {w0 w : World} {A B C L : List Ent} (h : Own w0 w (A ++ (B ++ (C ++ L)))) : Own w0 w (A ++ (C ++ (B ++ L))) := h.perm (by
  apply List.Perm.append_left
  rw [← List.append_assoc, ← List.append_assoc]
  exact List.perm_append_comm.append_right L)
theorem Own.cellM {w0 w : World} {L : List Ent} {g : Nat} {t : TypeId} {xs : List Value} (h : Own w0 w L) (hm : (g, CellsP t xs) ∈ L) (j : Nat) {v : Value} (hj : xs[j]? = some v) : w.cell? ⟨g, j, none⟩ = some v := by
  obtain ⟨i, hi⟩ := List.getElem?_of_mem hm
  exact h.cell i hi j hj
theorem mem3 {A E X : List Ent} {x : Ent} : x ∈ A ++ (E ++ ([x] ++ X)) := by simp
/-- What is so behind each call. -/
structure Pl (rows wd : Nat) (c : Int) (B : Nat) (R : List Row) (cs ns : List Int) (ad : Int) : Prop where
  shape : Sk.Shape wd R
  len : R.length = rows
  bd : Sk.Bd B R
  nb : ∀ v ∈ ns, 0 ≤ v ∧ v ≤ 8 * (B : Int)
  eq : cs.length = ns.length
  few : cs.length ≤ 8 * B
  a0 : 0 ≤ ad
  a1 : ad < c
  same : Rs.Same wd (Sk.tab R) cs ns
theorem Pl.more {rows wd : Nat} {c ad : Int} {B : Nat} {R : List Row} {cs ns : List Int} (h : Pl rows wd c B R cs ns ad) : Pl rows wd c (B + 1) R cs ns ad :=
  ⟨h.shape, h.len, fun p hp v hv => by have := h.bd p hp v hv; omega, fun v hv => by have := h.nb v hv; omega, h.eq, by have := h.few; omega, h.a0, h.a1, h.same⟩
theorem Pl.add {rows wd : Nat} {c ad : Int} {B : Nat} {R : List Row} {cs ns : List Int} (h : Pl rows wd c B R cs ns ad) (key : Int) :
    Pl rows wd c (B + 1) (Sk.added c ad key R) (Rs.addC key wd rows cs) (if ad + 1 < c then Rs.addN key wd rows cs ns else (Rs.addN key wd rows cs ns).map (· / 2)) (Sk.adds c ad) := by
  have hl := h.len
  have hfew := h.shape.few
  refine ⟨Sk.added_shape h.shape, ?_, Sk.added_bd h.bd (by omega), ?_, ?_, ?_, (Rs.adds_in h.a0 h.a1).1, (Rs.adds_in h.a0 h.a1).2, ?_⟩
  · unfold Sk.added
    split
    · rw [Sk.bumped_length, hl]
    · simp [Sk.halve, Sk.bumped_length, hl]
  · have h8 := Rs.addN_bd (cs := cs) key wd h.nb (by omega) rows
    have h9 := Rs.half_bd h8
    intro v hv
    split at hv
    · have := h8 v hv; omega
    · have := h9 v hv; omega
  · have := Rs.addCN_len key wd h.eq rows
    split
    · exact this
    · simpa using this
  · have := Rs.addC_len key wd cs rows
    have := h.few
    omega
  · rw [← hl]; exact Rs.same_added h.shape h.eq h.same
theorem Pl.age {rows wd : Nat} {c ad : Int} {B : Nat} {R : List Row} {cs ns : List Int} (h : Pl rows wd c B R cs ns ad) : Pl rows wd c (B + 1) (Sk.halve R) cs (ns.map (· / 2)) 0 := by
  have h1 := h.a0
  have h2 := h.a1
  have := Rs.half_bd h.nb
  exact ⟨Sk.halve_shape h.shape, by simp [Sk.halve, h.len], fun p hp v hv => by have := Sk.halve_bd h.bd p hp v hv; omega, fun v hv => by have := this v hv; omega, by simp [h.eq], by have := h.few; omega, by omega, by omega, Rs.same_half h.same⟩
theorem RAge_any {w0 w : World} {L E : List Ent} {g : Nat} {r wd af ad : Int} {cs ns : List Int} (HO : Own w0 w (E ++ L)) (hE : RsP g r wd af ad cs ns E) (hm : cs.length ≤ 1000000) (hB : ∀ v ∈ ns, 0 ≤ v ∧ v ≤ 4611686018427387905) :
    Calls Try.prog 16 #[.pointer (some ⟨g, 0, none⟩)] w fun e w' => e = .returned (.tuple #[]) ∧ ∃ E', RsP g r wd af 0 cs (ns.map (· / 2)) E' ∧ Own w0 w' (E' ++ L) := by
  rcases hE with ⟨h1, h2, rfl⟩ | ⟨N, g1, g2, c1, c2, h1, h2, h3, rfl⟩
  · refine (RAge_nil HO).mono ?_
    rintro e w' ⟨rfl, HO1⟩
    exact ⟨rfl, [_], .inl ⟨h1, by simp [h2], rfl⟩, HO1⟩
  · refine (RAge_some HO h2 (by omega) hB).mono ?_
    rintro e w' ⟨rfl, HO1⟩
    exact ⟨rfl, [_, _, _], .inr ⟨N, g1, g2, c1, c2, h1, by simp [h2], h3, rfl⟩, HO1⟩
theorem argS_op {w : World} {v : Value} {l : List ({k : Int // 0 ≤ k ∧ k ≤ 255} × {k : Int // 0 ≤ k ∧ k < 18446744073709551616})} (h : ArgS w 2 v (l.map opRow)) : ∃ (ao : Option Addr) (cap : Nat), v = .slice ao l.length cap ∧ l.length ≤ maxLen ∧ ∀ (i : Nat) q, l[i]? = some q → ∃ a, ao = some a ∧ ∀ (j : Nat) (x : Value), (opRow q)[j]? = some x → w.cell? ((a.add (i * 2)).add j) = some x := by
  obtain ⟨ao, cap, rfl, h1, h2, h3⟩ := h
  refine ⟨ao, cap, by simp, by simp at h1; omega, fun i k hk => ?_⟩
  exact h3 i (opRow k) (by simp [hk])
set_option maxRecDepth 20000 in
set_option maxHeartbeats 16000000 in
theorem SketchPlays_any (a b c : Int) (l : Value) (ops : List ({k : Int // 0 ≤ k ∧ k ≤ 255} × {k : Int // 0 ≤ k ∧ k < 18446744073709551616})) (w : World) (hl : ArgS w 2 l (ops.map opRow)) :
    Calls Try.prog 3 #[.agg #[.int .i64 a, .int .i64 b, .int .i64 c], l] w fun e w' => e = .returned (.bool true) ∧ Below w.heap.size w w' := by
  have HO := Own.nil w
  obtain ⟨ao, cap, rfl, hml, hrd⟩ := argS_op hl
  clear hl
  obtain ⟨B, hB⟩ : ∃ B, Sk.hw b = B := ⟨_, rfl⟩
  have hle := Sk.hw_le b
  rw [hB] at hle
  obtain ⟨n, hn⟩ : ∃ n, ops.length = n := ⟨_, rfl⟩
  have hmx : maxLen = 9223372036854775807 := rfl
  rw [hn] at hml ⊢
  have hnb : n ≤ 9223372036854775807 := by omega
  have HN := Lib.hid hn
  clear hmx hml hn
  by_cases hbig : 100 < n
  · have hd : decide ((100 : Int) < (n : Int)) = true := decide_eq_true (by omega)
    go_enter Try.func3, Try.ntmps3
    go_wp2_with (first | (refine li_boxAgg 23 rfl rfl rfl HO ?_; clear HO; intro gb wb HO) | ((with_reducible refine gate_load 23 rfl ?_); first | (refine li_loadWhole 0 23 3 rfl rfl rfl HO rfl rfl (by kernel_rfl) (by kernel_rfl) (by kernel_rfl) ?_)) | ((with_reducible refine gate_store 23 rfl ?_); first | (refine li_storeAgg 0 23 rfl rfl rfl rfl HO rfl rfl rfl rfl (by kernel_rfl) ?_; clear HO; intro ws HO; (try simp only [List.set_cons_zero, List.set_cons_succ] at HO))) | ((with_reducible refine gate_load 3 rfl ?_); first | (refine li_load 0 3 rfl rfl rfl HO rfl rfl (by kernel_rfl) ?_)) | ((with_reducible refine gate_load 2 rfl ?_); first | (refine li_load 0 2 rfl rfl rfl HO rfl rfl (by kernel_rfl) ?_)) | (refine li_boxAgg 35 rfl rfl rfl HO ?_; clear HO; intro gb wb HO) | ((with_reducible refine gate_load 38 rfl ?_); first | (refine li_loadWhole 0 38 2 rfl rfl rfl HO rfl rfl (by kernel_rfl) (by kernel_rfl) (by kernel_rfl) ?_)) | (refine li_alloc (t := 38) rfl rfl (z := .agg #[.int .u8 0, .int .u64 0]) (cs := [.int .u8 0, .int .u64 0]) (by kernel_rfl) rfl HO ?_; clear HO; intro ga wa HO) | ((with_reducible refine gate_store 38 rfl ?_); first | (refine li_storeAgg 0 38 rfl rfl rfl rfl HO rfl rfl rfl rfl (by kernel_rfl) ?_; clear HO; intro ws HO; (try simp only [List.set_cons_zero, List.set_cons_succ] at HO))) | ((with_reducible refine gate_load 5 rfl ?_); first | (refine li_load 0 5 rfl rfl rfl HO rfl rfl (by kernel_rfl) ?_)) | ((with_reducible refine gate_load 36 rfl ?_); first | (refine li_load 0 36 rfl rfl rfl HO rfl rfl (by kernel_rfl) ?_)) | (go_at_call 9; refine (awake_any HO).mono ?_; rintro e w2 ⟨rfl, HO1⟩; clear HO; have HO := HO1; clear HO1))
    go_ret
    exact ⟨rfl, HO.below⟩
  have hd : decide ((100 : Int) < (n : Int)) = false := decide_eq_false (by omega)
  rcases Bool.eq_false_or_eq_true (Sk.right a B c) with hr | hr
  rotate_left
  · have H := Lib.hid hr
    have HNO := Lib.hid (fun w => SNew_no a B c w hr)
    clear hr
    go_enter Try.func3, Try.ntmps3
    go_wp2_with (first | (refine li_boxAgg 23 rfl rfl rfl HO ?_; clear HO; intro gb wb HO) | ((with_reducible refine gate_load 23 rfl ?_); first | (refine li_loadWhole 0 23 3 rfl rfl rfl HO rfl rfl (by kernel_rfl) (by kernel_rfl) (by kernel_rfl) ?_)) | ((with_reducible refine gate_store 23 rfl ?_); first | (refine li_storeAgg 0 23 rfl rfl rfl rfl HO rfl rfl rfl rfl (by kernel_rfl) ?_; clear HO; intro ws HO; (try simp only [List.set_cons_zero, List.set_cons_succ] at HO))) | ((with_reducible refine gate_load 3 rfl ?_); first | (refine li_load 0 3 rfl rfl rfl HO rfl rfl (by kernel_rfl) ?_)) | ((with_reducible refine gate_load 2 rfl ?_); first | (refine li_load 0 2 rfl rfl rfl HO rfl rfl (by kernel_rfl) ?_)) | (refine li_boxAgg 35 rfl rfl rfl HO ?_; clear HO; intro gb wb HO) | ((with_reducible refine gate_load 38 rfl ?_); first | (refine li_loadWhole 0 38 2 rfl rfl rfl HO rfl rfl (by kernel_rfl) (by kernel_rfl) (by kernel_rfl) ?_)) | (refine li_alloc (t := 38) rfl rfl (z := .agg #[.int .u8 0, .int .u64 0]) (cs := [.int .u8 0, .int .u64 0]) (by kernel_rfl) rfl HO ?_; clear HO; intro ga wa HO) | ((with_reducible refine gate_store 38 rfl ?_); first | (refine li_storeAgg 0 38 rfl rfl rfl rfl HO rfl rfl rfl rfl (by kernel_rfl) ?_; clear HO; intro ws HO; (try simp only [List.set_cons_zero, List.set_cons_succ] at HO))) | ((with_reducible refine gate_load 5 rfl ?_); first | (refine li_load 0 5 rfl rfl rfl HO rfl rfl (by kernel_rfl) ?_)) | ((with_reducible refine gate_load 36 rfl ?_); first | (refine li_load 0 36 rfl rfl rfl HO rfl rfl (by kernel_rfl) ?_)) | (go_at_call 10; refine (held_any a b c _).mono ?_; rw [hB]; rintro e w1 ⟨rfl, hb⟩; replace HO := HO.next hb; clear hb) | (go_at_call 12; refine (Right_any _ _ _ _).mono ?_; rw [H.out]; rintro e w2 ⟨rfl, rfl⟩) | (go_at_call 11; refine (HNO.out _).mono ?_; rintro e w2 ⟨rfl, rfl⟩) | (go_at_call 9; refine (awake_any HO).mono ?_; rintro e w2 ⟨rfl, HO1⟩; clear HO; have HO := HO1; clear HO1))
    go_ret
    exact ⟨rfl, HO.below⟩
  obtain ⟨r1, r2, r3, r4, r5, r6⟩ : 1 ≤ a ∧ a ≤ 8 ∧ 1 ≤ B ∧ B ≤ 65536 ∧ 1 ≤ c ∧ c ≤ 1099511627776 := by unfold Sk.right at hr; simp at hr; omega
  have H := Lib.hid hr
  clear hr
  obtain ⟨rows, rfl⟩ : ∃ r : Nat, a = r := ⟨a.toNat, by omega⟩
  obtain ⟨wd, rfl⟩ : ∃ r : Nat, B = r := ⟨B.toNat, by omega⟩
  go_enter Try.func3, Try.ntmps3
  go_wp2_with (first | (refine li_boxAgg 23 rfl rfl rfl HO ?_; clear HO; (first | (have h_ : gh = gh := rfl; clear h_; intro gi wi HO) | (have h_ : gg = gg := rfl; clear h_; intro gh wh HO) | (have h_ : gf = gf := rfl; clear h_; intro gg wg HO) | (have h_ : ge = ge := rfl; clear h_; intro gf wf HO) | (have h_ : gd = gd := rfl; clear h_; intro ge we HO) | (have h_ : gc = gc := rfl; clear h_; intro gd wd HO) | (have h_ : gb = gb := rfl; clear h_; intro gc wc HO) | (have h_ : ga = ga := rfl; clear h_; intro gb wb HO) | (first | (have h_ : gh = gh := rfl; clear h_; intro gi wi HO) | (have h_ : gg = gg := rfl; clear h_; intro gh wh HO) | (have h_ : gf = gf := rfl; clear h_; intro gg wg HO) | (have h_ : ge = ge := rfl; clear h_; intro gf wf HO) | (have h_ : gd = gd := rfl; clear h_; intro ge we HO) | (have h_ : gc = gc := rfl; clear h_; intro gd wd HO) | (have h_ : gb = gb := rfl; clear h_; intro gc wc HO) | (have h_ : ga = ga := rfl; clear h_; intro gb wb HO) | intro ga wa HO))) | ((with_reducible refine gate_load 23 rfl ?_); first | (refine li_loadWhole 0 23 3 rfl rfl rfl HO rfl rfl (by kernel_rfl) (by kernel_rfl) (by kernel_rfl) ?_)) | ((with_reducible refine gate_store 23 rfl ?_); first | (refine li_storeAgg 0 23 rfl rfl rfl rfl HO rfl rfl rfl rfl (by kernel_rfl) ?_; clear HO; intro ws HO; (try simp only [List.set_cons_zero, List.set_cons_succ] at HO))) | ((with_reducible refine gate_load 3 rfl ?_); first | (refine li_load 0 3 rfl rfl rfl HO rfl rfl (by kernel_rfl) ?_)) | ((with_reducible refine gate_load 2 rfl ?_); first | (refine li_load 0 2 rfl rfl rfl HO rfl rfl (by kernel_rfl) ?_)) | (refine li_boxAgg 35 rfl rfl rfl HO ?_; clear HO; (first | (have h_ : gh = gh := rfl; clear h_; intro gi wi HO) | (have h_ : gg = gg := rfl; clear h_; intro gh wh HO) | (have h_ : gf = gf := rfl; clear h_; intro gg wg HO) | (have h_ : ge = ge := rfl; clear h_; intro gf wf HO) | (have h_ : gd = gd := rfl; clear h_; intro ge we HO) | (have h_ : gc = gc := rfl; clear h_; intro gd wd HO) | (have h_ : gb = gb := rfl; clear h_; intro gc wc HO) | (have h_ : ga = ga := rfl; clear h_; intro gb wb HO) | (first | (have h_ : gh = gh := rfl; clear h_; intro gi wi HO) | (have h_ : gg = gg := rfl; clear h_; intro gh wh HO) | (have h_ : gf = gf := rfl; clear h_; intro gg wg HO) | (have h_ : ge = ge := rfl; clear h_; intro gf wf HO) | (have h_ : gd = gd := rfl; clear h_; intro ge we HO) | (have h_ : gc = gc := rfl; clear h_; intro gd wd HO) | (have h_ : gb = gb := rfl; clear h_; intro gc wc HO) | (have h_ : ga = ga := rfl; clear h_; intro gb wb HO) | intro ga wa HO))) | ((with_reducible refine gate_load 38 rfl ?_); first | (refine li_loadWhole 0 38 2 rfl rfl rfl HO rfl rfl (by kernel_rfl) (by kernel_rfl) (by kernel_rfl) ?_)) | (refine li_alloc (t := 38) rfl rfl (z := .agg #[.int .u8 0, .int .u64 0]) (cs := [.int .u8 0, .int .u64 0]) (by kernel_rfl) rfl HO ?_; clear HO; (first | (have h_ : gh = gh := rfl; clear h_; intro gi wi HO) | (have h_ : gg = gg := rfl; clear h_; intro gh wh HO) | (have h_ : gf = gf := rfl; clear h_; intro gg wg HO) | (have h_ : ge = ge := rfl; clear h_; intro gf wf HO) | (have h_ : gd = gd := rfl; clear h_; intro ge we HO) | (have h_ : gc = gc := rfl; clear h_; intro gd wd HO) | (have h_ : gb = gb := rfl; clear h_; intro gc wc HO) | (have h_ : ga = ga := rfl; clear h_; intro gb wb HO) | intro ga wa HO)) | ((with_reducible refine gate_store 38 rfl ?_); first | (refine li_storeAgg 0 38 rfl rfl rfl rfl HO rfl rfl rfl rfl (by kernel_rfl) ?_; clear HO; intro ws HO; (try simp only [List.set_cons_zero, List.set_cons_succ] at HO))) | ((with_reducible refine gate_load 5 rfl ?_); first | (refine li_load 0 5 rfl rfl rfl HO rfl rfl (by kernel_rfl) ?_)) | ((with_reducible refine gate_load 36 rfl ?_); first | (refine li_load 0 36 rfl rfl rfl HO rfl rfl (by kernel_rfl) ?_)) | (go_at_call 10; refine (held_any rows b c _).mono ?_; rw [hB]; rintro e w1 ⟨rfl, hb⟩; replace HO := HO.next hb; clear hb) | (go_at_call 12; refine (Right_any _ _ _ _).mono ?_; rw [H.out]; rintro e w2 ⟨rfl, rfl⟩) | (go_at_call 11; refine (SNew_yes rows wd c HO (by omega) (by omega) (by omega) (by omega) (by omega) (by omega)).mono ?_; rintro e w2 ⟨gs, gr, cp, R, rfl, HO1, hR, hz⟩; clear HO; have HO := HO1.mid (A := SkE gs gr cp c 0 R) (B := [_]) (L := []); clear HO1))
  have HO0 : Own w wb (SkE gs gr cp c 0 R ++ ([((gb, CellsP 35 (rsl rows wd c 0 (.slice none 0 0) (.slice none 0 0))) : Ent)] ++ [])) :=
    Own.mid (A := [((gb, CellsP 35 (rsl rows wd c 0 (.slice none 0 0) (.slice none 0 0))) : Ent)]) (B := SkE gs gr cp c 0 R) (L := []) (HO.sub (.cons_cons _ (.cons _ (List.Sublist.refl _))))
  have hPl : Pl rows wd c 0 R [] [] 0 := ⟨Sk.zero_shape hz (by omega) (by omega) (by omega) (by omega), hR, Sk.zero_bd hz, by simp, rfl, by simp, by omega, by omega, Rs.same_zero hz⟩
  have hE0 : RsP gb rows wd c 0 [] [] [((gb, CellsP 35 (rsl rows wd c 0 (.slice none 0 0) (.slice none 0 0))) : Ent)] := .inl ⟨rfl, rfl, rfl⟩
  clear HO hz hR
  go_loopg [59] n (fun k v wr => ∃ (j : Nat) (R : List Row) (cs ns : List Int) (ad : Int) (E : List Ent), v = .int .i64 (j : Int) ∧ j ≤ n ∧ k = n - j ∧ Pl rows wd c j R cs ns ad ∧ RsP gb rows wd c ad cs ns E ∧ Own w wr (SkE gs gr cp c ad R ++ (E ++ [])))
  case atStart => exact ⟨0, R, [], [], 0, _, by rfl, by omega, by omega, hPl, hE0, HO0⟩
  case round =>
    clear HO0 hPl hE0
    obtain ⟨j, R, cs, ns, ad, E, rfl, j1, hk, hP, hE, HO⟩ := hrel
    rcases Nat.lt_or_ge j n with hj | hj
    · have hd4 : decide ((j : Int) < (n : Int)) = true := decide_eq_true (by omega)
      have hw1 : IntKind.i64.wrap ((j : Int) + 1) = ((j + 1 : Nat) : Int) := by rw [IntWalk.i64_in _ (by omega)]; rfl
      have hb0 : (0 : Int) ≤ (j : Int) := by omega
      have hb1 : (j : Int) < (n : Int) := by omega
      obtain ⟨q, e1⟩ : ∃ k, ops[j]? = some k := ⟨_, List.getElem?_eq_getElem (by rw [HN.out]; omega)⟩
      obtain ⟨ad1, rfl, hcl⟩ := hrd j q e1
      obtain ⟨⟨kd, kd0, kd1⟩, ⟨key, k1, k2⟩⟩ := q
      have hcl' : ∀ (i : Nat) (x : Value), ([.int .u8 kd, .int .u64 key] : List Value)[i]? = some x → w.cell? ((ad1.add (j * 2)).add i) = some x := hcl
      have HCL := Lib.hid hcl'
      have hmod : kd.tmod 3 = kd % 3 := Int.tmod_eq_emod_of_nonneg kd0
      have hPb := hP.bd
      have hPs := hP.shape
      have hPf := hP.few
      have hPa := hP.a0
      have hPa1 := hP.a1
      have HP := Lib.hid hP
      have HE := Lib.hid hE
      have HS := Lib.hid hPs
      have HB := Lib.hid hPb
      clear e1 hcl hcl' hP hE hPs hPb hrd
      have hm3 : kd % 3 = 0 ∨ kd % 3 = 1 ∨ kd % 3 = 2 := by omega
      go_upto_region 13 with (first | (refine li_loadAggAt 38 2 rfl rfl rfl (fun i x h => HO.old (HCL.out i x h)) rfl (by kernel_rfl) (by kernel_rfl) (by kernel_rfl) ?_) | (refine li_alloc (t := 38) rfl rfl (z := .agg #[.int .u8 0, .int .u64 0]) (cs := [.int .u8 0, .int .u64 0]) (by kernel_rfl) rfl HO ?_; clear HO; intro gc wc HO) | (refine li_storeAgg 0 38 rfl rfl rfl rfl HO rfl rfl rfl rfl (by kernel_rfl) ?_; clear HO; intro ws HO; simp only [List.set_cons_zero] at HO))
      replace HO := Own.mid2 (HO.mid (A := [((gc, CellsP 38 [.int .u8 kd, .int .u64 key]) : Ent)]) (B := SkE gs gr cp c ad R) (L := E ++ []))
      obtain ⟨md, hmd⟩ : ∃ md, kd % 3 = md := ⟨_, rfl⟩
      rw [hmd] at hmod hm3
      rcases hm3 with rfl | rfl | rfl
      · go_upto_region 20 with (first | (refine li_loadAt 5 rfl rfl rfl (HO.cellM mem3 0 rfl) (by kernel_rfl) ?_) | (refine li_loadAt 36 rfl rfl rfl (HO.cellM mem3 1 rfl) (by kernel_rfl) ?_) | (go_at_call 13; (refine (Add_any key HO k1 k2 HS.out HB.out (by omega) (by omega) (by omega) (by omega)).mono ?_); rintro e w4 ⟨rfl, HO1⟩; clear HO; have HO := HO1; clear HO1) | (go_at_call 14; (refine (RAdd_any (B := 8 * (j : Int) + 1) key HO.mid HE.out k1 k2 (by omega) (by omega) (by omega) (fun v hv => by have := HP.out.nb v hv; omega) (by omega) (by omega) (by omega) (by omega) (by omega) (by omega)).mono ?_); rintro e w5 ⟨rfl, E2, hE2, HO1⟩; clear HO; have HO := HO1.mid; clear HO1))
        have hP2 := HP.out.add key
        have hS2 := hP2.shape
        have hv2 := Rs.same_val hS2 hP2.same hP2.bd key
        have hlen2 := hP2.len
        have hfew2 := hP2.few
        have HP2 := Lib.hid hP2
        have c1 : w5.cell? ⟨gc, 1, none⟩ = some (.int .u64 key) := HO.cellM mem3 1 rfl
        have c3 : w5.cell? ⟨gb, 3, none⟩ = some (.int .i64 (Sk.adds c ad)) := by
          have H3 := HO.mid
          rcases hE2 with ⟨h1, h2, rfl⟩ | ⟨N, g1, g2, c1', c2', h1, h2, h3, rfl⟩ <;> exact H3.cell 0 rfl 3 rfl
        have Q1 := Lib.hid (fun n => quiet_eq (Count_any key (HO.drewN n) k1 k2 hS2))
        have Q2 := Lib.hid (fun n => quiet_eq (RCount_any key (HO.drewN n).mid hE2 k1 k2 hlen2 (by omega) (by omega) (by omega) (by omega) (by omega) hv2))
        have Q3 := Lib.hid (fun n => quiet_eq (Adds_any (HO.drewN n)))
        obtain ⟨C, hC⟩ : ∃ C, Sk.count key (Sk.added c ad key R) = C := ⟨_, rfl⟩
        obtain ⟨D, hD⟩ : ∃ D, Sk.adds c ad = D := ⟨_, rfl⟩
        rw [hC] at Q1 Q2
        rw [hD] at Q3 c3
        have HE2 := Lib.hid hE2
        clear hC hD hE2 hv2 hP2 hS2 hlen2
        go_wp2_with (fail)
        go_quiet ((first | (go_at_call 17; exact Q1.out _) | (go_at_call 18; exact Q2.out _) | (go_at_call 19; exact Q3.out _)))
        go_wp2_with (fail)
        go_roundg (n - (j + 1))
        case measure => omega
        case rel => exact ⟨j + 1, _, _, _, _, _, rfl, by omega, rfl, HP2.out, HE2.out, (Own.drewN HO _).sub (List.Sublist.append_left (List.Sublist.append_left (List.nil_sublist _) _) _)⟩
      · go_upto_region 20 with (first | (refine li_loadAt 5 rfl rfl rfl (HO.cellM mem3 0 rfl) (by kernel_rfl) ?_) | (go_at_call 15; (refine (Age_any HO HS.out HB.out (by omega)).mono ?_); rintro e w4 ⟨rfl, HO1⟩; clear HO; have HO := HO1; clear HO1) | (go_at_call 16; (refine (RAge_any HO.mid HE.out (by omega) (fun v hv => by have := HP.out.nb v hv; omega)).mono ?_); rintro e w5 ⟨rfl, E2, hE2, HO1⟩; clear HO; have HO := HO1.mid; clear HO1))
        have hP2 := HP.out.age
        have hS2 := hP2.shape
        have hv2 := Rs.same_val hS2 hP2.same hP2.bd key
        have hlen2 := hP2.len
        have hfew2 := hP2.few
        have HP2 := Lib.hid hP2
        have c1 : w5.cell? ⟨gc, 1, none⟩ = some (.int .u64 key) := HO.cellM mem3 1 rfl
        have c3 : w5.cell? ⟨gb, 3, none⟩ = some (.int .i64 ((0 : Int))) := by
          have H3 := HO.mid
          rcases hE2 with ⟨h1, h2, rfl⟩ | ⟨N, g1, g2, c1', c2', h1, h2, h3, rfl⟩ <;> exact H3.cell 0 rfl 3 rfl
        have Q1 := Lib.hid (fun n => quiet_eq (Count_any key (HO.drewN n) k1 k2 hS2))
        have Q2 := Lib.hid (fun n => quiet_eq (RCount_any key (HO.drewN n).mid hE2 k1 k2 hlen2 (by omega) (by omega) (by omega) (by omega) (by omega) hv2))
        have Q3 := Lib.hid (fun n => quiet_eq (Adds_any (HO.drewN n)))
        obtain ⟨C, hC⟩ : ∃ C, Sk.count key (Sk.halve R) = C := ⟨_, rfl⟩
        obtain ⟨D, hD⟩ : ∃ D, (0 : Int) = D := ⟨_, rfl⟩
        rw [hC] at Q1 Q2
        rw [hD] at Q3 c3
        have HE2 := Lib.hid hE2
        clear hC hD hE2 hv2 hP2 hS2 hlen2
        go_wp2_with (fail)
        go_quiet ((first | (go_at_call 17; exact Q1.out _) | (go_at_call 18; exact Q2.out _) | (go_at_call 19; exact Q3.out _)))
        go_wp2_with (fail)
        go_roundg (n - (j + 1))
        case measure => omega
        case rel => exact ⟨j + 1, _, _, _, _, _, rfl, by omega, rfl, HP2.out, HE2.out, (Own.drewN HO _).sub (List.Sublist.append_left (List.Sublist.append_left (List.nil_sublist _) _) _)⟩
      · go_upto_region 20 with (first | (refine li_loadAt 5 rfl rfl rfl (HO.cellM mem3 0 rfl) (by kernel_rfl) ?_))
        have hE2 := HE.out
        have hP2 := HP.out.more
        have hS2 := hP2.shape
        have hv2 := Rs.same_val hS2 hP2.same hP2.bd key
        have hlen2 := hP2.len
        have hfew2 := hP2.few
        have HP2 := Lib.hid hP2
        have c1 : ws.cell? ⟨gc, 1, none⟩ = some (.int .u64 key) := HO.cellM mem3 1 rfl
        have c3 : ws.cell? ⟨gb, 3, none⟩ = some (.int .i64 (ad)) := by
          have H3 := HO.mid
          rcases hE2 with ⟨h1, h2, rfl⟩ | ⟨N, g1, g2, c1', c2', h1, h2, h3, rfl⟩ <;> exact H3.cell 0 rfl 3 rfl
        have Q1 := Lib.hid (fun n => quiet_eq (Count_any key (HO.drewN n) k1 k2 hS2))
        have Q2 := Lib.hid (fun n => quiet_eq (RCount_any key (HO.drewN n).mid hE2 k1 k2 hlen2 (by omega) (by omega) (by omega) (by omega) (by omega) hv2))
        have Q3 := Lib.hid (fun n => quiet_eq (Adds_any (HO.drewN n)))
        obtain ⟨C, hC⟩ : ∃ C, Sk.count key (R) = C := ⟨_, rfl⟩
        obtain ⟨D, hD⟩ : ∃ D, ad = D := ⟨_, rfl⟩
        rw [hC] at Q1 Q2
        rw [hD] at Q3 c3
        have HE2 := Lib.hid hE2
        clear hC hD hE2 hv2 hP2 hS2 hlen2
        go_wp2_with (fail)
        go_quiet ((first | (go_at_call 17; exact Q1.out _) | (go_at_call 18; exact Q2.out _) | (go_at_call 19; exact Q3.out _)))
        go_wp2_with (fail)
        go_roundg (n - (j + 1))
        case measure => omega
        case rel => exact ⟨j + 1, _, _, _, _, _, rfl, by omega, rfl, HP2.out, HE2.out, (Own.drewN HO _).sub (List.Sublist.append_left (List.Sublist.append_left (List.nil_sublist _) _) _)⟩
    · obtain rfl : j = n := by omega
      have hd4 : decide ((j : Int) < (j : Int)) = false := by simp
      go_wp2_with (go_at_call 9; (refine (awake_any HO).mono ?_); rintro e w2 ⟨rfl, HO1⟩; clear HO; have HO := HO1; clear HO1)
      go_ret
      exact ⟨rfl, HO.below⟩
end Go.Proofs.Ytdjcgfknlhijiaa

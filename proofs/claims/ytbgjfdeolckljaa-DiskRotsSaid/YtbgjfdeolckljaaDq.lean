/- Rot is one bit, once for each write. -/
import Derived.Test.YtbgjfdeolckljaaDp
import Derived.Test.YtbgjfdeolckljaaF
namespace Go.Proofs.Ytbgjfdeolckljaa
set_option linter.unusedVariables false
set_option linter.unusedSimpArgs false
set_option linter.unnecessarySimpa false
open Go.RowKit Go.Proofs.YtbgjfdeolckljaaW.PrintLast
theorem own_str {w0 w : World} {L : List Ent} {g n cap cp : Nat} (l : List (BitVec 8)) (HO : Own w0 w L) (hm : (g, RowP 5 1 cp (Dk.bys l)) ∈ L) (hl : l.length = n) : (convert 35 9 (.slice (some ⟨g, 0, none⟩) n cap)).run Try.prog w = .ok (.string (strB l)) w := by
  obtain ⟨i, hi⟩ := List.getElem?_of_mem hm
  refine run_bytesStr l Try.underlying35 Try.underlying5 (by kernel_rfl) hl (fun j b hb => ?_)
  rw [add_at]
  exact HO.rowCell i hi j (by simp [Dk.bys, hb])
set_option maxRecDepth 20000 in
set_option maxHeartbeats 16000000 in
theorem DiskRots_any (a bt x : Int) (fl : Bool) (w : World) (a0 : 0 ≤ a) (a1 : a < 256) (b0 : 0 ≤ bt) (b1 : bt < 65536) (x0 : 0 ≤ x) (x1 : x < 256) :
    Calls Try.prog 6 #[.int .u8 a, .int .u16 bt, .int .u8 x, .bool fl] w fun e w' => e = .returned (.bool true) ∧ Below w.heap.size w w' := by
  have HO := Own.nil w
  obtain ⟨bx, rfl⟩ := u8_bv x x0 x1
  have hK0 := Dk.new_ok 4 16 (by decide) (by decide) (by decide) (by decide)
  have hw0 : IntKind.i64.wrap a = a := IntWalk.i64_in _ (by omega)
  have hw1 : IntKind.i64.wrap bt = bt := IntWalk.i64_in _ (by omega)
  obtain ⟨n, hn⟩ : ∃ n : Nat, a % 4 = (n : Int) := ⟨(a % 4).toNat, (Int.toNat_of_nonneg (Int.emod_nonneg _ (by omega))).symm⟩
  have hn4 : n < 4 := by omega
  have hm : a.tmod 4 = (n : Int) := by rw [Int.tmod_eq_emod_of_nonneg a0, hn]
  obtain ⟨at_, ha⟩ : ∃ n : Nat, bt % 128 = (n : Int) := ⟨(bt % 128).toNat, (Int.toNat_of_nonneg (Int.emod_nonneg _ (by omega))).symm⟩
  have ha128 : at_ < 128 := by omega
  have hm2 : bt.tmod 128 = (at_ : Int) := by rw [Int.tmod_eq_emod_of_nonneg b0, ha]
  have hwn : IntKind.i64.wrap (n : Int) = (n : Int) := IntWalk.i64_in _ (by omega)
  have hwa : IntKind.i64.wrap (at_ : Int) = (at_ : Int) := IntWalk.i64_in _ (by omega)
  clear hn ha
  cases fl with
  | true =>
    go_enter Try.func6, Try.ntmps6
    go_wp2_with (go_at_call 9; (refine (alive_any HO).mono ?_); rintro e w2 ⟨rfl, HO1⟩; clear HO; have HO := HO1; clear HO1)
    go_at_call 10; refine (DNew_yes 4 16 HO (by decide) (by decide) (by decide) (by decide)).mono ?_; rintro e w1 ⟨g, E, rfl, hD, HO1⟩
    clear HO
    go_wp2_with (fail)
    go_at_call 13; refine (filled_any 16 bx HO1 (by decide)).mono ?_; rintro e w2 ⟨g1, rfl, HO2⟩
    clear HO1
    go_wp2_with (fail)
    go_at_call 12; refine (Write_ok n hK0 hD (Own.mid (A := [_]) (B := E) HO2) (by simpa using hn4) rfl (Bs_head HO2 (by simp))).mono ?_; rintro e w3 ⟨rfl, gb, cb, E1, hD1, HO3⟩
    have hK1 := Dk.wrote_ok (n := n) (g := gb) (c := cb) (bs := List.replicate 16 bx) hK0 (by simpa using hn4) (by simp) (by simp)
    clear HO2 hD
    go_wp2_with (fail)
    go_at_call 11; refine (Flush_ok hK1 hD1 HO3 rfl).mono ?_; rintro e w6 ⟨rfl, E2, hDf, HOf⟩
    have hKf := Dk.flushed_ok hK1
    clear HO3
    go_wp2_with (fail)
    obtain ⟨D, E, hK, hD, HO, hln, hsz, hoff, hts, hws⟩ : ∃ D E, Dk.Ok D ∧ Dk.DkP g D E ∧ Own w w6 (E ++ ([(g1, RowP 5 1 16 (Dk.bys (List.replicate 16 bx)))] ++ [])) ∧ n < D.lasts.length ∧ D.size = 16 ∧ D.off = false ∧ Dk.toldS D n = ⟨some (gb, cb, List.replicate 16 bx), false, false⟩ ∧ D.waits.length ≤ 10 :=
      ⟨_, _, hKf, hDf, HOf, by simpa [Dk.wrote, Dk.flushed, Dk.fl_len] using hn4, rfl, rfl, toldS_flushed1 16 n 4 gb cb (List.replicate 16 bx) hn4, by simp [Dk.flushed]⟩
    clear hKf hDf HOf
    clear hD1 hK1
    have HTS := Lib.hid hts
    have hbits : at_ < D.size * 8 := by rw [hsz]; omega
    go_at_call 19; refine (Rot_some n at_ hK hD HO hln hoff hbits hts).mono ?_; rintro e wA ⟨rfl, E2, hD2, HOA⟩
    have hK2 : Dk.Ok (Dk.rotted D n gb cb at_ (List.replicate 16 bx)) := Dk.putS_ok hK hln (fun g' c' b' h => by injection h with h; injection h with _ h; injection h with _ h; rw [← h, Dk.flipB_len, hsz]; simp)
    have hts2 : Dk.toldS (Dk.rotted D n gb cb at_ (List.replicate 16 bx)) n = ⟨some (gb, cb, Dk.flipB (List.replicate 16 bx) at_), true, false⟩ := Dk.toldS_putS hln _
    obtain ⟨l1, l2, l3, l4⟩ := Dk.putS_lens (D := D) (n := n) (s := ⟨some (gb, cb, Dk.flipB (List.replicate 16 bx) at_), true, false⟩)
    obtain ⟨D2, hDD⟩ : ∃ D2, Dk.rotted D n gb cb at_ (List.replicate 16 bx) = D2 := ⟨_, rfl⟩
    have hDD' : Dk.putS D n ⟨some (gb, cb, Dk.flipB (List.replicate 16 bx) at_), true, false⟩ = D2 := hDD
    rw [hDD] at hD2 hK2 hts2
    rw [hDD'] at l1 l2 l3 l4
    rw [hsz] at l3
    rw [hoff] at l4
    have hln2 : n < D2.lasts.length := by rw [l1]; exact hln
    have hby : Dk.bytes D2 n = Dk.flipB (List.replicate 16 bx) at_ := by unfold Dk.bytes; rw [hts2]
    have hwt : D2.waits.length < 100000 := by rw [l2]; omega
    clear hD HO hK hln hoff hts hbits hDD hDD' l1 l2
    have HBY := Lib.hid hby
    have HTS2 := Lib.hid hts2
    have HL3 := Lib.hid l3
    have HL4 := Lib.hid l4
    clear hby
    go_wp2_with (fail)
    go_at_call 19; refine (Rot_turned n at_ hK2 hD2 HOA hln2 HL4.out (by rw [HL3.out]; omega) (by rw [HTS2.out]) (by rw [HTS2.out])).mono ?_; rintro e wB ⟨rfl, rfl⟩
    go_wp2_with (fail)
    go_at_call 19; refine (Rot_arg n 128 hD2 HOA (by rw [HL3.out]; decide) (.inr (by rw [HL3.out]; decide))).mono ?_; rintro e wB ⟨rfl, rfl⟩
    go_wp2_with (fail)
    go_at_call 17; refine (Read_ok n hK2 hD2 HOA hln2 HL4.out).mono ?_; rw [HTS2.out, HBY.out, HL3.out]; rintro e wC (⟨⟨ht, _⟩, _⟩ | ⟨_, gz, cz, rfl, HOC⟩)
    · cases ht
    clear HOA
    obtain ⟨x', yy, z, f1, f2, f3, f4, f5, f6, f7, f8⟩ := Dk.flipB_val (List.replicate 16 bx) at_ (by simp; omega)
    obtain ⟨I, hI⟩ : ∃ I, at_ / 8 = I := ⟨_, rfl⟩
    obtain ⟨M, hM⟩ : ∃ M, at_ % 8 = M := ⟨_, rfl⟩
    have hI16 : I < 16 := by omega
    have hM8 : M < 8 := by omega
    rw [hI] at f1 f8
    rw [hM] at f4
    have g1' : (at_ : Int).tdiv 8 = ((I : Nat) : Int) := by rw [Int.tdiv_eq_ediv_of_nonneg (by omega), ← hI]; rfl
    have g2' : (at_ : Int).tmod 8 = ((M : Nat) : Int) := by rw [Int.tmod_eq_emod_of_nonneg (by omega), ← hM]; rfl
    have g3' : (at_ : Int) / 8 = ((I : Nat) : Int) := by rw [← hI]; rfl
    have g4' : (at_ : Int) % 8 = ((M : Nat) : Int) := by rw [← hM]; rfl
    have hwI : IntKind.i64.wrap (I : Int) = (I : Int) := IntWalk.i64_in _ (by omega)
    have hwM : IntKind.i64.wrap (M : Int) = (M : Int) := IntWalk.i64_in _ (by omega)
    have i2 : (0 : Int) ≤ (M : Int) := by omega
    have i3 : (M : Int) < 8 := by omega
    have hx' : x' = (bx.toNat : Int) := by rw [bys_same 16 I bx hI16] at f1; injection f1 with f1; injection f1 with _ f1; exact f1.symm
    subst hx'
    have hgets : ∀ i, i < 16 → (Dk.bys (Dk.flipB (List.replicate 16 bx) at_))[i]? = some (.int .u8 (if i = I then z else (bx.toNat : Int))) := fun i hi => by
      rw [← f8, List.getElem?_set]
      by_cases e : I = i
      · rw [if_pos e, if_pos (by rw [Dk.bys_len]; simp; omega), if_pos e.symm]
      · rw [if_neg e, if_neg (fun h => e h.symm)]; exact bys_same 16 i bx hi
    have HG := Lib.hid hgets
    obtain ⟨FB, hFB⟩ : ∃ FB, Dk.bys (Dk.flipB (List.replicate 16 bx) at_) = FB := ⟨_, rfl⟩
    rw [hFB] at HOC HG
    have HBX := Lib.hid (show (bx.toNat : Int) = (bx.toNat : Int) from rfl)
    clear hgets hFB f1 f8 hI hM
    go_wp2_with (fail)
    go_loopg [70] 16 (fun k v wr => ∃ i : Nat, v = .int .i64 (i : Int) ∧ i ≤ 16 ∧ k = 16 - i ∧ Own w wr ((gz, RowP 5 1 cz FB) :: (E2 ++ ([(g1, RowP 5 1 16 (Dk.bys (List.replicate 16 bx)))] ++ []))))
    case atStart => exact ⟨0, by rfl, by omega, by omega, HOC⟩
    case round =>
      clear HOC
      obtain ⟨i, rfl, i1, hk, HO⟩ := hrel
      rcases Nat.lt_or_ge i 16 with hi | hi
      · have hd : decide ((i : Int) < 16) = true := decide_eq_true (by omega)
        have hwi : IntKind.i64.wrap ((i : Int) + 1) = ((i + 1 : Nat) : Int) := by rw [IntWalk.i64_in _ (by omega)]; rfl
        have hb0 : (0 : Int) ≤ (i : Int) := by omega
        have hb1 : (i : Int) < 16 := by omega
        have hgi := HG.out i hi
        by_cases e : i = I
        · have hq : ((i : Int) == (I : Int)) = true := by simp [e]
          rw [if_pos e] at hgi
          have HGI := Lib.hid hgi
          clear hgi e
          go_wp2_with (refine li_loadRow 0 5 rfl rfl (off := i) rfl HO rfl HGI.out (by kernel_rfl) ?_)
          go_roundg (16 - (i + 1))
          case measure => omega
          case rel => exact ⟨i + 1, rfl, by omega, rfl, HO⟩
        · have hq : ((i : Int) == (I : Int)) = false := by simp; omega
          rw [if_neg e] at hgi
          have HGI := Lib.hid hgi
          clear hgi e
          go_wp2_with (refine li_loadRow 0 5 rfl rfl (off := i) rfl HO rfl HGI.out (by kernel_rfl) ?_)
          go_roundg (16 - (i + 1))
          case measure => omega
          case rel => exact ⟨i + 1, rfl, by omega, rfl, HO⟩
      · obtain rfl : i = 16 := by omega
        have HO1 := HO.tail
        clear HO
        go_wp2_with (fail)
        go_at_call 13; refine (filled_any 16 bx HO1 (by decide)).mono ?_; rintro e wD ⟨g3, rfl, HO2⟩
        clear HO1
        go_wp2_with (fail)
        have hWR := fun (a : Addr) (h : Bs wD (.slice (some a) D2.size 16) (List.replicate 16 bx)) => Write_ok n hK2 hD2 (Own.mid (A := [_]) (B := E2) HO2) hln2 HL4.out h
        rw [HL3.out] at hWR
        go_at_call 12; refine (hWR ⟨g3, 0, none⟩ (Bs_head HO2 (by simp))).mono ?_; rintro e wE ⟨rfl, gc, cc, E3, hD3, HO3⟩
        have hK3 := Dk.wrote_ok (n := n) (g := gc) (c := cc) (bs := List.replicate 16 bx) hK2 hln2 (by rw [HL3.out]; simp) hwt
        have hts3 := toldS_wrote D2 n gc cc (List.replicate 16 bx)
        have hby3 : Dk.bytes (Dk.wrote D2 n gc cc (List.replicate 16 bx)) n = List.replicate 16 bx := by unfold Dk.bytes; rw [hts3]
        have hsz3 : (Dk.wrote D2 n gc cc (List.replicate 16 bx)).size = 16 := HL3.out
        have hoff3 : (Dk.wrote D2 n gc cc (List.replicate 16 bx)).off = false := HL4.out
        have hln3 : n < (Dk.wrote D2 n gc cc (List.replicate 16 bx)).lasts.length := hln2
        obtain ⟨D3, hD3e⟩ : ∃ D3, Dk.wrote D2 n gc cc (List.replicate 16 bx) = D3 := ⟨_, rfl⟩
        rw [hD3e] at hD3 hK3 hts3 hby3 hsz3 hoff3 hln3
        have HTS3 := Lib.hid hts3
        have HBY3 := Lib.hid hby3
        have HSZ3 := Lib.hid hsz3
        have HOF3 := Lib.hid hoff3
        clear HO2 hWR hts3 hby3 hsz3 hoff3 hD3e
        go_wp2_with (fail)
        go_at_call 17; refine (Read_ok n hK3 hD3 HO3 hln3 HOF3.out).mono ?_; rw [HTS3.out, HBY3.out, HSZ3.out]; rintro e wF (⟨⟨ht, _⟩, _⟩ | ⟨_, gy, cy, rfl, HO⟩)
        · cases ht
        clear HO3
        go_wp2_with (fail)
        have HL16 := Lib.hid (show (List.replicate 16 bx).length = 16 by simp)
        have F16 := Lib.hid (show ∀ (v0 v1 : World) (L1 : List Ent), Own v0 v1 L1 → Calls Try.prog 13 #[.int .i64 16, .int .u8 (bx.toNat : Int)] v1 (fun e w' => ∃ g, e = .returned (.slice (some ⟨g, 0, none⟩) 16 16) ∧ Own v0 w' ((g, RowP 5 1 16 (Dk.bys (List.replicate 16 bx))) :: L1)) from fun v0 v1 L1 h => filled_any 16 bx h (by decide))
        clear hD2 hK2
        refine start_ (n := 18) (S := fun w' => (convert 35 9 (.slice (some ⟨gy, 0, none⟩) 16 cy)).run Try.prog w' = .ok (.string (strB (List.replicate 16 bx))) w') (ds := []) #[false, false, false, false, false, false, false, false, false, false, false, false, false, false, false, false, false, false] (by kernel_rfl) rfl rfl ((own_str (cp := cy) (List.replicate 16 bx) HO.drew (by simp) HL16.out)) (fun hHeld => ?_)
        replace HO := HO.drew
        refine pure_ (i := 0) (N := some 101) (v := ?_) (a' := ?_) #[true, false, false, false, false, false, false, false, false, false, false, false, false, false, false, false, false, false] rfl rfl (by kernel_rfl) (fun _ _ _ h => h) (Or.inl ⟨by rfl, ?_⟩) ?_ ?_
        rotate_left
        · intro w'
          go_simp
          with_reducible rfl
        rotate_left
        · simp only [Act.put, List.setIfInBounds_toArray, List.set_cons_zero, List.set_cons_succ, i64_w, i32_w]
          rfl
        refine pure_ (i := 1) (N := some 102) (v := ?_) (a' := ?_) #[true, true, false, false, false, false, false, false, false, false, false, false, false, false, false, false, false, false] rfl rfl (by kernel_rfl) (fun _ _ _ h => h) (Or.inl ⟨by rfl, ?_⟩) ?_ ?_
        rotate_left
        · intro w'
          go_simp
          with_reducible rfl
        rotate_left
        · simp only [Act.put, List.setIfInBounds_toArray, List.set_cons_zero, List.set_cons_succ, i64_w, i32_w]
          rfl
        refine pure_ (i := 2) (N := some 103) (v := ?_) (a' := ?_) #[true, true, true, false, false, false, false, false, false, false, false, false, false, false, false, false, false, false] rfl rfl (by kernel_rfl) (fun _ _ _ h => h) (Or.inl ⟨by rfl, ?_⟩) ?_ ?_
        rotate_left
        · intro w'
          go_simp
          with_reducible rfl
        rotate_left
        · simp only [Act.put, List.setIfInBounds_toArray, List.set_cons_zero, List.set_cons_succ, i64_w, i32_w]
          rfl
        refine pure_ (i := 3) (N := some 104) (v := ?_) (a' := ?_) #[true, true, true, true, false, false, false, false, false, false, false, false, false, false, false, false, false, false] rfl rfl (by kernel_rfl) (fun _ _ _ h => h) (Or.inl ⟨by rfl, ?_⟩) ?_ ?_
        rotate_left
        · intro w'
          go_simp
          with_reducible rfl
        rotate_left
        · simp only [Act.put, List.setIfInBounds_toArray, List.set_cons_zero, List.set_cons_succ, i64_w, i32_w]
          rfl
        refine pure_ (i := 5) (N := some 106) (v := ?_) (a' := ?_) #[true, true, true, true, false, true, false, false, false, false, false, false, false, false, false, false, false, false] rfl rfl (by kernel_rfl) (fun _ _ _ h => h) (Or.inl ⟨by rfl, ?_⟩) ?_ ?_
        rotate_left
        · intro w'
          go_simp
          with_reducible rfl
        rotate_left
        · simp only [Act.put, List.setIfInBounds_toArray, List.set_cons_zero, List.set_cons_succ, i64_w, i32_w]
          rfl
        refine take_ (i := 4) (N := some 105) (v := ?_) (a' := ?_) #[true, true, true, true, true, true, false, false, false, false, false, false, false, false, false, false, false, false] rfl rfl (by kernel_rfl) (fun _ _ _ h => h) (Or.inl ⟨by rfl, ?_⟩) hHeld ?_ ?_
        rotate_left
        · intro w' s0
          go_simp
          with_reducible rfl
        rotate_left
        · simp only [Act.put, List.setIfInBounds_toArray, List.set_cons_zero, List.set_cons_succ, i64_w, i32_w]
          rfl
        refine one_ (i := 6) (N := some 107) #[true, true, true, true, true, true, true, false, false, false, false, false, false, false, false, false, false, false] rfl rfl (by kernel_rfl) (by decide) (fun K hK => ?_)
        refine goes_ Try.func13 (by kernel_rfl) rfl #[.int .i64 16, .int .u8 (bx.toNat : Int)] (by rfl) rfl rfl (by simp only [List.map_toArray, List.map_cons, List.map_nil]; rfl) ?_
        with_reducible refine (F16.out _ _ _ HO).mono ?_
        rintro e wG ⟨g4, rfl, HO1⟩
        refine ⟨_, rfl, ?_⟩
        clear HO
        have HO := HO1
        clear HO1
        refine hK.out _ _ ((own_str (cp := cy) (List.replicate 16 bx) HO (by simp) HL16.out)) (fun hHeld => ?_)
        clear hK K
        refine norm_ (a' := ?_) ?_ ?_
        rotate_left
        · show Act.put _ (some 107) _ = _
          simp only [Act.put, List.setIfInBounds_toArray, List.set_cons_zero, List.set_cons_succ, i64_w, i32_w]
          rfl
        refine one_ (i := 7) (N := some 108) #[true, true, true, true, true, true, true, true, false, false, false, false, false, false, false, false, false, false] rfl rfl (by kernel_rfl) (by decide) (fun K hK => ?_)
        refine st_bytesStr 0 35 9 5 (List.replicate 16 bx) rfl rfl rfl HO rfl HL16.out (by kernel_rfl) (by kernel_rfl) (by kernel_rfl) ?_
        refine hK.out _ _ ((own_str (cp := cy) (List.replicate 16 bx) HO (by simp) HL16.out)) (fun hHeld => ?_)
        clear hK K
        refine norm_ (a' := ?_) ?_ ?_
        rotate_left
        · show Act.put _ (some 108) _ = _
          simp only [Act.put, List.setIfInBounds_toArray, List.set_cons_zero, List.set_cons_succ, i64_w, i32_w]
          rfl
        refine pure_ (i := 8) (N := some 109) (v := ?_) (a' := ?_) #[true, true, true, true, true, true, true, true, true, false, false, false, false, false, false, false, false, false] rfl rfl (by kernel_rfl) (fun _ _ _ h => h) (Or.inl ⟨by rfl, ?_⟩) ?_ ?_
        rotate_left
        · intro w'
          go_simp
          with_reducible rfl
        rotate_left
        · simp only [Act.put, List.setIfInBounds_toArray, List.set_cons_zero, List.set_cons_succ, i64_w, i32_w]
          rfl
        refine pure_ (i := 9) (N := some 110) (v := ?_) (a' := ?_) #[true, true, true, true, true, true, true, true, true, true, false, false, false, false, false, false, false, false] rfl rfl (by kernel_rfl) (fun _ _ _ h => h) (Or.inl ⟨by rfl, ?_⟩) ?_ ?_
        rotate_left
        · intro w'
          go_simp
          with_reducible rfl
        rotate_left
        · simp only [Act.put, List.setIfInBounds_toArray, List.set_cons_zero, List.set_cons_succ, i64_w, i32_w]
          rfl
        refine pure_ (i := 10) (N := some 111) (v := ?_) (a' := ?_) #[true, true, true, true, true, true, true, true, true, true, true, false, false, false, false, false, false, false] rfl rfl (by kernel_rfl) (fun _ _ _ h => h) (Or.inl ⟨by rfl, ?_⟩) ?_ ?_
        rotate_left
        · intro w'
          go_simp
          with_reducible rfl
        rotate_left
        · simp only [Act.put, List.setIfInBounds_toArray, List.set_cons_zero, List.set_cons_succ, i64_w, i32_w]
          rfl
        refine pure_ (i := 11) (N := some 112) (v := ?_) (a' := ?_) #[true, true, true, true, true, true, true, true, true, true, true, true, false, false, false, false, false, false] rfl rfl (by kernel_rfl) (fun _ _ _ h => h) (Or.inl ⟨by rfl, ?_⟩) ?_ ?_
        rotate_left
        · intro w'
          go_simp
          with_reducible rfl
        rotate_left
        · simp only [Act.put, List.setIfInBounds_toArray, List.set_cons_zero, List.set_cons_succ, i64_w, i32_w]
          rfl
        refine pure_ (i := 12) (N := some 113) (v := ?_) (a' := ?_) #[true, true, true, true, true, true, true, true, true, true, true, true, true, false, false, false, false, false] rfl rfl (by kernel_rfl) (fun _ _ _ h => h) (Or.inl ⟨by rfl, ?_⟩) ?_ ?_
        rotate_left
        · intro w'
          go_simp
          with_reducible rfl
        rotate_left
        · simp only [Act.put, List.setIfInBounds_toArray, List.set_cons_zero, List.set_cons_succ, i64_w, i32_w]
          rfl
        refine pure_ (i := 13) (N := some 114) (v := ?_) (a' := ?_) #[true, true, true, true, true, true, true, true, true, true, true, true, true, true, false, false, false, false] rfl rfl (by kernel_rfl) (fun _ _ _ h => h) (Or.inl ⟨by rfl, ?_⟩) ?_ ?_
        rotate_left
        · intro w'
          go_simp
          with_reducible rfl
        rotate_left
        · simp only [Act.put, List.setIfInBounds_toArray, List.set_cons_zero, List.set_cons_succ, i64_w, i32_w]
          rfl
        refine one_ (i := 14) (N := some 115) #[true, true, true, true, true, true, true, true, true, true, true, true, true, true, true, false, false, false] rfl rfl (by kernel_rfl) (by decide) (fun K hK => ?_)
        refine goes_ Try.func19 (by kernel_rfl) rfl #[.pointer (some ⟨g, 0, none⟩), .int .i64 (n : Int), .int .i64 (at_ : Int)] (by rfl) rfl rfl (by simp only [List.map_toArray, List.map_cons, List.map_nil]; rfl) ?_
        with_reducible refine (Rot_some n at_ hK3 hD3 (Own.mid (A := [_, _]) (B := E3) HO) hln3 HOF3.out (by rw [HSZ3.out]; omega) HTS3.out).mono ?_
        rintro e wH ⟨rfl, E4, hD4, HO1⟩
        refine ⟨_, rfl, ?_⟩
        clear HO
        have HO := HO1
        clear HO1
        refine hK.out _ _ ((own_str (cp := cy) (List.replicate 16 bx) HO (by simp) HL16.out)) (fun hHeld => ?_)
        clear hK K
        refine norm_ (a' := ?_) ?_ ?_
        rotate_left
        · show Act.put _ (some 115) _ = _
          simp only [Act.put, List.setIfInBounds_toArray, List.set_cons_zero, List.set_cons_succ, i64_w, i32_w]
          rfl
        refine pure_ (i := 15) (N := some 116) (v := ?_) (a' := ?_) #[true, true, true, true, true, true, true, true, true, true, true, true, true, true, true, true, false, false] rfl rfl (by kernel_rfl) (fun _ _ _ h => h) (Or.inl ⟨by rfl, ?_⟩) ?_ ?_
        rotate_left
        · intro w'
          go_simp
          with_reducible rfl
        rotate_left
        · simp only [Act.put, List.setIfInBounds_toArray, List.set_cons_zero, List.set_cons_succ, i64_w, i32_w]
          rfl
        refine pure_ (i := 16) (N := some 117) (v := ?_) (a' := ?_) #[true, true, true, true, true, true, true, true, true, true, true, true, true, true, true, true, true, false] rfl rfl (by kernel_rfl) (fun _ _ _ h => h) (Or.inl ⟨by rfl, ?_⟩) ?_ ?_
        rotate_left
        · intro w'
          go_simp
          with_reducible rfl
        rotate_left
        · simp only [Act.put, List.setIfInBounds_toArray, List.set_cons_zero, List.set_cons_succ, i64_w, i32_w]
          rfl
        refine pure_ (i := 17) (N := some 8) (v := ?_) (a' := ?_) #[true, true, true, true, true, true, true, true, true, true, true, true, true, true, true, true, true, true] rfl rfl (by kernel_rfl) (fun _ _ _ h => h) (Or.inl ⟨by rfl, ?_⟩) ?_ ?_
        rotate_left
        · intro w'
          go_simp
          with_reducible rfl
        rotate_left
        · simp only [Act.put, List.setIfInBounds_toArray, List.set_cons_zero, List.set_cons_succ, i64_w, i32_w]
          rfl
        refine done_ (by kernel_rfl) ?_
        go_wp2_with (fail)
        go_ret
        exact ⟨rfl, HO.below⟩
  | false =>
    go_enter Try.func6, Try.ntmps6
    go_wp2_with (go_at_call 9; (refine (alive_any HO).mono ?_); rintro e w2 ⟨rfl, HO1⟩; clear HO; have HO := HO1; clear HO1)
    go_at_call 10; refine (DNew_yes 4 16 HO (by decide) (by decide) (by decide) (by decide)).mono ?_; rintro e w1 ⟨g, E, rfl, hD, HO1⟩
    clear HO
    go_wp2_with (fail)
    go_at_call 13; refine (filled_any 16 bx HO1 (by decide)).mono ?_; rintro e w2 ⟨g1, rfl, HO2⟩
    clear HO1
    go_wp2_with (fail)
    go_at_call 12; refine (Write_ok n hK0 hD (Own.mid (A := [_]) (B := E) HO2) (by simpa using hn4) rfl (Bs_head HO2 (by simp))).mono ?_; rintro e w3 ⟨rfl, gb, cb, E1, hD1, HO3⟩
    have hK1 := Dk.wrote_ok (n := n) (g := gb) (c := cb) (bs := List.replicate 16 bx) hK0 (by simpa using hn4) (by simp) (by simp)
    clear HO2 hD
    go_wp2_with (fail)
    obtain ⟨D, E, hK, hD, HO, hln, hsz, hoff, hts, hws⟩ : ∃ D E, Dk.Ok D ∧ Dk.DkP g D E ∧ Own w w3 (E ++ ([(g1, RowP 5 1 16 (Dk.bys (List.replicate 16 bx)))] ++ [])) ∧ n < D.lasts.length ∧ D.size = 16 ∧ D.off = false ∧ Dk.toldS D n = ⟨some (gb, cb, List.replicate 16 bx), false, false⟩ ∧ D.waits.length ≤ 10 :=
      ⟨_, _, hK1, hD1, HO3, by simpa [Dk.wrote] using hn4, rfl, rfl, toldS_wrote _ _ _ _ _, by simp [Dk.wrote]⟩
    clear HO3
    clear hD1 hK1
    have HTS := Lib.hid hts
    have hbits : at_ < D.size * 8 := by rw [hsz]; omega
    go_at_call 19; refine (Rot_some n at_ hK hD HO hln hoff hbits hts).mono ?_; rintro e wA ⟨rfl, E2, hD2, HOA⟩
    have hK2 : Dk.Ok (Dk.rotted D n gb cb at_ (List.replicate 16 bx)) := Dk.putS_ok hK hln (fun g' c' b' h => by injection h with h; injection h with _ h; injection h with _ h; rw [← h, Dk.flipB_len, hsz]; simp)
    have hts2 : Dk.toldS (Dk.rotted D n gb cb at_ (List.replicate 16 bx)) n = ⟨some (gb, cb, Dk.flipB (List.replicate 16 bx) at_), true, false⟩ := Dk.toldS_putS hln _
    obtain ⟨l1, l2, l3, l4⟩ := Dk.putS_lens (D := D) (n := n) (s := ⟨some (gb, cb, Dk.flipB (List.replicate 16 bx) at_), true, false⟩)
    obtain ⟨D2, hDD⟩ : ∃ D2, Dk.rotted D n gb cb at_ (List.replicate 16 bx) = D2 := ⟨_, rfl⟩
    have hDD' : Dk.putS D n ⟨some (gb, cb, Dk.flipB (List.replicate 16 bx) at_), true, false⟩ = D2 := hDD
    rw [hDD] at hD2 hK2 hts2
    rw [hDD'] at l1 l2 l3 l4
    rw [hsz] at l3
    rw [hoff] at l4
    have hln2 : n < D2.lasts.length := by rw [l1]; exact hln
    have hby : Dk.bytes D2 n = Dk.flipB (List.replicate 16 bx) at_ := by unfold Dk.bytes; rw [hts2]
    have hwt : D2.waits.length < 100000 := by rw [l2]; omega
    clear hD HO hK hln hoff hts hbits hDD hDD' l1 l2
    have HBY := Lib.hid hby
    have HTS2 := Lib.hid hts2
    have HL3 := Lib.hid l3
    have HL4 := Lib.hid l4
    clear hby
    go_wp2_with (fail)
    go_at_call 19; refine (Rot_turned n at_ hK2 hD2 HOA hln2 HL4.out (by rw [HL3.out]; omega) (by rw [HTS2.out]) (by rw [HTS2.out])).mono ?_; rintro e wB ⟨rfl, rfl⟩
    go_wp2_with (fail)
    go_at_call 19; refine (Rot_arg n 128 hD2 HOA (by rw [HL3.out]; decide) (.inr (by rw [HL3.out]; decide))).mono ?_; rintro e wB ⟨rfl, rfl⟩
    go_wp2_with (fail)
    go_at_call 17; refine (Read_ok n hK2 hD2 HOA hln2 HL4.out).mono ?_; rw [HTS2.out, HBY.out, HL3.out]; rintro e wC (⟨⟨ht, _⟩, _⟩ | ⟨_, gz, cz, rfl, HOC⟩)
    · cases ht
    clear HOA
    obtain ⟨x', yy, z, f1, f2, f3, f4, f5, f6, f7, f8⟩ := Dk.flipB_val (List.replicate 16 bx) at_ (by simp; omega)
    obtain ⟨I, hI⟩ : ∃ I, at_ / 8 = I := ⟨_, rfl⟩
    obtain ⟨M, hM⟩ : ∃ M, at_ % 8 = M := ⟨_, rfl⟩
    have hI16 : I < 16 := by omega
    have hM8 : M < 8 := by omega
    rw [hI] at f1 f8
    rw [hM] at f4
    have g1' : (at_ : Int).tdiv 8 = ((I : Nat) : Int) := by rw [Int.tdiv_eq_ediv_of_nonneg (by omega), ← hI]; rfl
    have g2' : (at_ : Int).tmod 8 = ((M : Nat) : Int) := by rw [Int.tmod_eq_emod_of_nonneg (by omega), ← hM]; rfl
    have g3' : (at_ : Int) / 8 = ((I : Nat) : Int) := by rw [← hI]; rfl
    have g4' : (at_ : Int) % 8 = ((M : Nat) : Int) := by rw [← hM]; rfl
    have hwI : IntKind.i64.wrap (I : Int) = (I : Int) := IntWalk.i64_in _ (by omega)
    have hwM : IntKind.i64.wrap (M : Int) = (M : Int) := IntWalk.i64_in _ (by omega)
    have i2 : (0 : Int) ≤ (M : Int) := by omega
    have i3 : (M : Int) < 8 := by omega
    have hx' : x' = (bx.toNat : Int) := by rw [bys_same 16 I bx hI16] at f1; injection f1 with f1; injection f1 with _ f1; exact f1.symm
    subst hx'
    have hgets : ∀ i, i < 16 → (Dk.bys (Dk.flipB (List.replicate 16 bx) at_))[i]? = some (.int .u8 (if i = I then z else (bx.toNat : Int))) := fun i hi => by
      rw [← f8, List.getElem?_set]
      by_cases e : I = i
      · rw [if_pos e, if_pos (by rw [Dk.bys_len]; simp; omega), if_pos e.symm]
      · rw [if_neg e, if_neg (fun h => e h.symm)]; exact bys_same 16 i bx hi
    have HG := Lib.hid hgets
    obtain ⟨FB, hFB⟩ : ∃ FB, Dk.bys (Dk.flipB (List.replicate 16 bx) at_) = FB := ⟨_, rfl⟩
    rw [hFB] at HOC HG
    have HBX := Lib.hid (show (bx.toNat : Int) = (bx.toNat : Int) from rfl)
    clear hgets hFB f1 f8 hI hM
    go_wp2_with (fail)
    go_loopg [70] 16 (fun k v wr => ∃ i : Nat, v = .int .i64 (i : Int) ∧ i ≤ 16 ∧ k = 16 - i ∧ Own w wr ((gz, RowP 5 1 cz FB) :: (E2 ++ ([(g1, RowP 5 1 16 (Dk.bys (List.replicate 16 bx)))] ++ []))))
    case atStart => exact ⟨0, by rfl, by omega, by omega, HOC⟩
    case round =>
      clear HOC
      obtain ⟨i, rfl, i1, hk, HO⟩ := hrel
      rcases Nat.lt_or_ge i 16 with hi | hi
      · have hd : decide ((i : Int) < 16) = true := decide_eq_true (by omega)
        have hwi : IntKind.i64.wrap ((i : Int) + 1) = ((i + 1 : Nat) : Int) := by rw [IntWalk.i64_in _ (by omega)]; rfl
        have hb0 : (0 : Int) ≤ (i : Int) := by omega
        have hb1 : (i : Int) < 16 := by omega
        have hgi := HG.out i hi
        by_cases e : i = I
        · have hq : ((i : Int) == (I : Int)) = true := by simp [e]
          rw [if_pos e] at hgi
          have HGI := Lib.hid hgi
          clear hgi e
          go_wp2_with (refine li_loadRow 0 5 rfl rfl (off := i) rfl HO rfl HGI.out (by kernel_rfl) ?_)
          go_roundg (16 - (i + 1))
          case measure => omega
          case rel => exact ⟨i + 1, rfl, by omega, rfl, HO⟩
        · have hq : ((i : Int) == (I : Int)) = false := by simp; omega
          rw [if_neg e] at hgi
          have HGI := Lib.hid hgi
          clear hgi e
          go_wp2_with (refine li_loadRow 0 5 rfl rfl (off := i) rfl HO rfl HGI.out (by kernel_rfl) ?_)
          go_roundg (16 - (i + 1))
          case measure => omega
          case rel => exact ⟨i + 1, rfl, by omega, rfl, HO⟩
      · obtain rfl : i = 16 := by omega
        have HO1 := HO.tail
        clear HO
        go_wp2_with (fail)
        go_at_call 13; refine (filled_any 16 bx HO1 (by decide)).mono ?_; rintro e wD ⟨g3, rfl, HO2⟩
        clear HO1
        go_wp2_with (fail)
        have hWR := fun (a : Addr) (h : Bs wD (.slice (some a) D2.size 16) (List.replicate 16 bx)) => Write_ok n hK2 hD2 (Own.mid (A := [_]) (B := E2) HO2) hln2 HL4.out h
        rw [HL3.out] at hWR
        go_at_call 12; refine (hWR ⟨g3, 0, none⟩ (Bs_head HO2 (by simp))).mono ?_; rintro e wE ⟨rfl, gc, cc, E3, hD3, HO3⟩
        have hK3 := Dk.wrote_ok (n := n) (g := gc) (c := cc) (bs := List.replicate 16 bx) hK2 hln2 (by rw [HL3.out]; simp) hwt
        have hts3 := toldS_wrote D2 n gc cc (List.replicate 16 bx)
        have hby3 : Dk.bytes (Dk.wrote D2 n gc cc (List.replicate 16 bx)) n = List.replicate 16 bx := by unfold Dk.bytes; rw [hts3]
        have hsz3 : (Dk.wrote D2 n gc cc (List.replicate 16 bx)).size = 16 := HL3.out
        have hoff3 : (Dk.wrote D2 n gc cc (List.replicate 16 bx)).off = false := HL4.out
        have hln3 : n < (Dk.wrote D2 n gc cc (List.replicate 16 bx)).lasts.length := hln2
        obtain ⟨D3, hD3e⟩ : ∃ D3, Dk.wrote D2 n gc cc (List.replicate 16 bx) = D3 := ⟨_, rfl⟩
        rw [hD3e] at hD3 hK3 hts3 hby3 hsz3 hoff3 hln3
        have HTS3 := Lib.hid hts3
        have HBY3 := Lib.hid hby3
        have HSZ3 := Lib.hid hsz3
        have HOF3 := Lib.hid hoff3
        clear HO2 hWR hts3 hby3 hsz3 hoff3 hD3e
        go_wp2_with (fail)
        go_at_call 17; refine (Read_ok n hK3 hD3 HO3 hln3 HOF3.out).mono ?_; rw [HTS3.out, HBY3.out, HSZ3.out]; rintro e wF (⟨⟨ht, _⟩, _⟩ | ⟨_, gy, cy, rfl, HO⟩)
        · cases ht
        clear HO3
        go_wp2_with (fail)
        have HL16 := Lib.hid (show (List.replicate 16 bx).length = 16 by simp)
        have F16 := Lib.hid (show ∀ (v0 v1 : World) (L1 : List Ent), Own v0 v1 L1 → Calls Try.prog 13 #[.int .i64 16, .int .u8 (bx.toNat : Int)] v1 (fun e w' => ∃ g, e = .returned (.slice (some ⟨g, 0, none⟩) 16 16) ∧ Own v0 w' ((g, RowP 5 1 16 (Dk.bys (List.replicate 16 bx))) :: L1)) from fun v0 v1 L1 h => filled_any 16 bx h (by decide))
        clear hD2 hK2
        refine start_ (n := 18) (S := fun w' => (convert 35 9 (.slice (some ⟨gy, 0, none⟩) 16 cy)).run Try.prog w' = .ok (.string (strB (List.replicate 16 bx))) w') (ds := []) #[false, false, false, false, false, false, false, false, false, false, false, false, false, false, false, false, false, false] (by kernel_rfl) rfl rfl ((own_str (cp := cy) (List.replicate 16 bx) HO.drew (by simp) HL16.out)) (fun hHeld => ?_)
        replace HO := HO.drew
        refine pure_ (i := 0) (N := some 101) (v := ?_) (a' := ?_) #[true, false, false, false, false, false, false, false, false, false, false, false, false, false, false, false, false, false] rfl rfl (by kernel_rfl) (fun _ _ _ h => h) (Or.inl ⟨by rfl, ?_⟩) ?_ ?_
        rotate_left
        · intro w'
          go_simp
          with_reducible rfl
        rotate_left
        · simp only [Act.put, List.setIfInBounds_toArray, List.set_cons_zero, List.set_cons_succ, i64_w, i32_w]
          rfl
        refine pure_ (i := 1) (N := some 102) (v := ?_) (a' := ?_) #[true, true, false, false, false, false, false, false, false, false, false, false, false, false, false, false, false, false] rfl rfl (by kernel_rfl) (fun _ _ _ h => h) (Or.inl ⟨by rfl, ?_⟩) ?_ ?_
        rotate_left
        · intro w'
          go_simp
          with_reducible rfl
        rotate_left
        · simp only [Act.put, List.setIfInBounds_toArray, List.set_cons_zero, List.set_cons_succ, i64_w, i32_w]
          rfl
        refine pure_ (i := 2) (N := some 103) (v := ?_) (a' := ?_) #[true, true, true, false, false, false, false, false, false, false, false, false, false, false, false, false, false, false] rfl rfl (by kernel_rfl) (fun _ _ _ h => h) (Or.inl ⟨by rfl, ?_⟩) ?_ ?_
        rotate_left
        · intro w'
          go_simp
          with_reducible rfl
        rotate_left
        · simp only [Act.put, List.setIfInBounds_toArray, List.set_cons_zero, List.set_cons_succ, i64_w, i32_w]
          rfl
        refine pure_ (i := 3) (N := some 104) (v := ?_) (a' := ?_) #[true, true, true, true, false, false, false, false, false, false, false, false, false, false, false, false, false, false] rfl rfl (by kernel_rfl) (fun _ _ _ h => h) (Or.inl ⟨by rfl, ?_⟩) ?_ ?_
        rotate_left
        · intro w'
          go_simp
          with_reducible rfl
        rotate_left
        · simp only [Act.put, List.setIfInBounds_toArray, List.set_cons_zero, List.set_cons_succ, i64_w, i32_w]
          rfl
        refine pure_ (i := 5) (N := some 106) (v := ?_) (a' := ?_) #[true, true, true, true, false, true, false, false, false, false, false, false, false, false, false, false, false, false] rfl rfl (by kernel_rfl) (fun _ _ _ h => h) (Or.inl ⟨by rfl, ?_⟩) ?_ ?_
        rotate_left
        · intro w'
          go_simp
          with_reducible rfl
        rotate_left
        · simp only [Act.put, List.setIfInBounds_toArray, List.set_cons_zero, List.set_cons_succ, i64_w, i32_w]
          rfl
        refine take_ (i := 4) (N := some 105) (v := ?_) (a' := ?_) #[true, true, true, true, true, true, false, false, false, false, false, false, false, false, false, false, false, false] rfl rfl (by kernel_rfl) (fun _ _ _ h => h) (Or.inl ⟨by rfl, ?_⟩) hHeld ?_ ?_
        rotate_left
        · intro w' s0
          go_simp
          with_reducible rfl
        rotate_left
        · simp only [Act.put, List.setIfInBounds_toArray, List.set_cons_zero, List.set_cons_succ, i64_w, i32_w]
          rfl
        refine one_ (i := 6) (N := some 107) #[true, true, true, true, true, true, true, false, false, false, false, false, false, false, false, false, false, false] rfl rfl (by kernel_rfl) (by decide) (fun K hK => ?_)
        refine goes_ Try.func13 (by kernel_rfl) rfl #[.int .i64 16, .int .u8 (bx.toNat : Int)] (by rfl) rfl rfl (by simp only [List.map_toArray, List.map_cons, List.map_nil]; rfl) ?_
        with_reducible refine (F16.out _ _ _ HO).mono ?_
        rintro e wG ⟨g4, rfl, HO1⟩
        refine ⟨_, rfl, ?_⟩
        clear HO
        have HO := HO1
        clear HO1
        refine hK.out _ _ ((own_str (cp := cy) (List.replicate 16 bx) HO (by simp) HL16.out)) (fun hHeld => ?_)
        clear hK K
        refine norm_ (a' := ?_) ?_ ?_
        rotate_left
        · show Act.put _ (some 107) _ = _
          simp only [Act.put, List.setIfInBounds_toArray, List.set_cons_zero, List.set_cons_succ, i64_w, i32_w]
          rfl
        refine one_ (i := 7) (N := some 108) #[true, true, true, true, true, true, true, true, false, false, false, false, false, false, false, false, false, false] rfl rfl (by kernel_rfl) (by decide) (fun K hK => ?_)
        refine st_bytesStr 0 35 9 5 (List.replicate 16 bx) rfl rfl rfl HO rfl HL16.out (by kernel_rfl) (by kernel_rfl) (by kernel_rfl) ?_
        refine hK.out _ _ ((own_str (cp := cy) (List.replicate 16 bx) HO (by simp) HL16.out)) (fun hHeld => ?_)
        clear hK K
        refine norm_ (a' := ?_) ?_ ?_
        rotate_left
        · show Act.put _ (some 108) _ = _
          simp only [Act.put, List.setIfInBounds_toArray, List.set_cons_zero, List.set_cons_succ, i64_w, i32_w]
          rfl
        refine pure_ (i := 8) (N := some 109) (v := ?_) (a' := ?_) #[true, true, true, true, true, true, true, true, true, false, false, false, false, false, false, false, false, false] rfl rfl (by kernel_rfl) (fun _ _ _ h => h) (Or.inl ⟨by rfl, ?_⟩) ?_ ?_
        rotate_left
        · intro w'
          go_simp
          with_reducible rfl
        rotate_left
        · simp only [Act.put, List.setIfInBounds_toArray, List.set_cons_zero, List.set_cons_succ, i64_w, i32_w]
          rfl
        refine pure_ (i := 9) (N := some 110) (v := ?_) (a' := ?_) #[true, true, true, true, true, true, true, true, true, true, false, false, false, false, false, false, false, false] rfl rfl (by kernel_rfl) (fun _ _ _ h => h) (Or.inl ⟨by rfl, ?_⟩) ?_ ?_
        rotate_left
        · intro w'
          go_simp
          with_reducible rfl
        rotate_left
        · simp only [Act.put, List.setIfInBounds_toArray, List.set_cons_zero, List.set_cons_succ, i64_w, i32_w]
          rfl
        refine pure_ (i := 10) (N := some 111) (v := ?_) (a' := ?_) #[true, true, true, true, true, true, true, true, true, true, true, false, false, false, false, false, false, false] rfl rfl (by kernel_rfl) (fun _ _ _ h => h) (Or.inl ⟨by rfl, ?_⟩) ?_ ?_
        rotate_left
        · intro w'
          go_simp
          with_reducible rfl
        rotate_left
        · simp only [Act.put, List.setIfInBounds_toArray, List.set_cons_zero, List.set_cons_succ, i64_w, i32_w]
          rfl
        refine pure_ (i := 11) (N := some 112) (v := ?_) (a' := ?_) #[true, true, true, true, true, true, true, true, true, true, true, true, false, false, false, false, false, false] rfl rfl (by kernel_rfl) (fun _ _ _ h => h) (Or.inl ⟨by rfl, ?_⟩) ?_ ?_
        rotate_left
        · intro w'
          go_simp
          with_reducible rfl
        rotate_left
        · simp only [Act.put, List.setIfInBounds_toArray, List.set_cons_zero, List.set_cons_succ, i64_w, i32_w]
          rfl
        refine pure_ (i := 12) (N := some 113) (v := ?_) (a' := ?_) #[true, true, true, true, true, true, true, true, true, true, true, true, true, false, false, false, false, false] rfl rfl (by kernel_rfl) (fun _ _ _ h => h) (Or.inl ⟨by rfl, ?_⟩) ?_ ?_
        rotate_left
        · intro w'
          go_simp
          with_reducible rfl
        rotate_left
        · simp only [Act.put, List.setIfInBounds_toArray, List.set_cons_zero, List.set_cons_succ, i64_w, i32_w]
          rfl
        refine pure_ (i := 13) (N := some 114) (v := ?_) (a' := ?_) #[true, true, true, true, true, true, true, true, true, true, true, true, true, true, false, false, false, false] rfl rfl (by kernel_rfl) (fun _ _ _ h => h) (Or.inl ⟨by rfl, ?_⟩) ?_ ?_
        rotate_left
        · intro w'
          go_simp
          with_reducible rfl
        rotate_left
        · simp only [Act.put, List.setIfInBounds_toArray, List.set_cons_zero, List.set_cons_succ, i64_w, i32_w]
          rfl
        refine one_ (i := 14) (N := some 115) #[true, true, true, true, true, true, true, true, true, true, true, true, true, true, true, false, false, false] rfl rfl (by kernel_rfl) (by decide) (fun K hK => ?_)
        refine goes_ Try.func19 (by kernel_rfl) rfl #[.pointer (some ⟨g, 0, none⟩), .int .i64 (n : Int), .int .i64 (at_ : Int)] (by rfl) rfl rfl (by simp only [List.map_toArray, List.map_cons, List.map_nil]; rfl) ?_
        with_reducible refine (Rot_some n at_ hK3 hD3 (Own.mid (A := [_, _]) (B := E3) HO) hln3 HOF3.out (by rw [HSZ3.out]; omega) HTS3.out).mono ?_
        rintro e wH ⟨rfl, E4, hD4, HO1⟩
        refine ⟨_, rfl, ?_⟩
        clear HO
        have HO := HO1
        clear HO1
        refine hK.out _ _ ((own_str (cp := cy) (List.replicate 16 bx) HO (by simp) HL16.out)) (fun hHeld => ?_)
        clear hK K
        refine norm_ (a' := ?_) ?_ ?_
        rotate_left
        · show Act.put _ (some 115) _ = _
          simp only [Act.put, List.setIfInBounds_toArray, List.set_cons_zero, List.set_cons_succ, i64_w, i32_w]
          rfl
        refine pure_ (i := 15) (N := some 116) (v := ?_) (a' := ?_) #[true, true, true, true, true, true, true, true, true, true, true, true, true, true, true, true, false, false] rfl rfl (by kernel_rfl) (fun _ _ _ h => h) (Or.inl ⟨by rfl, ?_⟩) ?_ ?_
        rotate_left
        · intro w'
          go_simp
          with_reducible rfl
        rotate_left
        · simp only [Act.put, List.setIfInBounds_toArray, List.set_cons_zero, List.set_cons_succ, i64_w, i32_w]
          rfl
        refine pure_ (i := 16) (N := some 117) (v := ?_) (a' := ?_) #[true, true, true, true, true, true, true, true, true, true, true, true, true, true, true, true, true, false] rfl rfl (by kernel_rfl) (fun _ _ _ h => h) (Or.inl ⟨by rfl, ?_⟩) ?_ ?_
        rotate_left
        · intro w'
          go_simp
          with_reducible rfl
        rotate_left
        · simp only [Act.put, List.setIfInBounds_toArray, List.set_cons_zero, List.set_cons_succ, i64_w, i32_w]
          rfl
        refine pure_ (i := 17) (N := some 8) (v := ?_) (a' := ?_) #[true, true, true, true, true, true, true, true, true, true, true, true, true, true, true, true, true, true] rfl rfl (by kernel_rfl) (fun _ _ _ h => h) (Or.inl ⟨by rfl, ?_⟩) ?_ ?_
        rotate_left
        · intro w'
          go_simp
          with_reducible rfl
        rotate_left
        · simp only [Act.put, List.setIfInBounds_toArray, List.set_cons_zero, List.set_cons_succ, i64_w, i32_w]
          rfl
        refine done_ (by kernel_rfl) ?_
        go_wp2_with (fail)
        go_ret
        exact ⟨rfl, HO.below⟩
end Go.Proofs.Ytbgjfdeolckljaa

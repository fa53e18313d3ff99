/- A sector read; bytes written. -/
import Derived.Test.YtbgjfdeolckljaaDc
namespace Go.Proofs.Ytbgjfdeolckljaa
set_option linter.unusedVariables false
set_option linter.unusedSimpArgs false
set_option linter.unnecessarySimpa false
open Go.RowKit Go.Proofs.YtbgjfdeolckljaaW.PrintLast
namespace Dk
/-- The bytes that a sector is told as. -/
def bytes (D : Disk) (n : Nat) : List Byte := match (toldS D n).blk with | none => List.replicate D.size 0#8 | some (_, _, bs) => bs
theorem ents_mem {D : Disk} {n g c : Nat} {bs : List Byte} (hn : n < D.lasts.length) (h : (toldS D n).blk = some (g, c, bs)) : (g, RowP 5 1 c (bys bs)) ∈ pool D := by
  unfold pool
  unfold toldS at h
  cases hl : lastW D.waits n with
  | none =>
    rw [hl] at h
    simp only [] at h
    obtain ⟨s, hs⟩ : ∃ s, D.lasts[n]? = some s := ⟨_, List.getElem?_eq_getElem hn⟩
    rw [List.getD_eq_getElem?_getD, hs] at h
    simp at h
    refine List.mem_append_left _ (List.mem_flatMap.2 ⟨s, List.mem_of_getElem? hs, ?_⟩)
    unfold Sec.ents; rw [h]; simp
  | some i =>
    rw [hl] at h
    simp only [] at h
    obtain ⟨x, hx⟩ : ∃ x, D.waits[i]? = some x := ⟨_, List.getElem?_eq_getElem (lastW_lt hl)⟩
    rw [List.getD_eq_getElem?_getD, hx] at h
    simp at h
    refine List.mem_append_right _ (List.mem_flatMap.2 ⟨x, List.mem_of_getElem? hx, ?_⟩)
    unfold Sec.ents; rw [h]; simp
theorem told_size {D : Disk} {n g c : Nat} {bs : List Byte} (hK : Ok D) (hn : n < D.lasts.length) (h : (toldS D n).blk = some (g, c, bs)) : bs.length = D.size := by
  unfold toldS at h
  cases hl : lastW D.waits n with
  | none =>
    rw [hl] at h
    simp only [] at h
    obtain ⟨s, hs⟩ : ∃ s, D.lasts[n]? = some s := ⟨_, List.getElem?_eq_getElem hn⟩
    rw [List.getD_eq_getElem?_getD, hs] at h
    exact hK.bs s g c bs (.inl (List.mem_of_getElem? hs)) h
  | some i =>
    rw [hl] at h
    simp only [] at h
    obtain ⟨x, hx⟩ : ∃ x, D.waits[i]? = some x := ⟨_, List.getElem?_eq_getElem (lastW_lt hl)⟩
    rw [List.getD_eq_getElem?_getD, hx] at h
    exact hK.bs x.2 g c bs (.inr ⟨x.1, List.mem_of_getElem? hx⟩) h
theorem bytes_len {D : Disk} {n : Nat} (hK : Ok D) (hn : n < D.lasts.length) : (bytes D n).length = D.size := by
  unfold bytes
  cases h : (toldS D n).blk with
  | none => simp
  | some p => obtain ⟨g, c, bs⟩ := p; exact told_size hK hn h
theorem bys_zero (n : Nat) : List.replicate n (Value.int .u8 0) = bys (List.replicate n 0#8) := by simp [bys]
end Dk
set_option maxRecDepth 20000 in
theorem Read_bad {w0 w : World} {L E : List Ent} {g : Nat} {D : Dk.Disk} (n : Int) (hD : Dk.DkP g D E) (HO : Own w0 w (E ++ L)) {e : Int} (he : Dk.mayE D n = e) (h0 : e ≠ 0) :
    Calls Try.prog 17 #[.pointer (some ⟨g, 0, none⟩), .int .i64 n] w fun x w' => x = .returned (.tuple #[.slice none 0 0, .int .i64 e]) ∧ w = w' := by
  have hne : (e != 0) = true := by simp [h0]
  have HM := Lib.hid he
  clear he
  go_enter Try.func17, Try.ntmps17
  go_wp2_with (go_at_call 23; (refine (may_any n hD HO).mono ?_); rw [HM.out]; rintro e w2 ⟨rfl, rfl⟩)
  go_ret2
  exact ⟨rfl, rfl⟩
set_option maxRecDepth 20000 in
set_option maxHeartbeats 4000000 in
theorem Read_ok {w0 w : World} {L E : List Ent} {g : Nat} {D : Dk.Disk} (n : Nat) (hK : Dk.Ok D) (hD : Dk.DkP g D E) (HO : Own w0 w (E ++ L)) (hn : n < D.lasts.length) (hoff : D.off = false) :
    Calls Try.prog 17 #[.pointer (some ⟨g, 0, none⟩), .int .i64 (n : Int)] w fun x w' => (((Dk.toldS D n).torn = true ∧ x = .returned (.tuple #[.slice none 0 0, .int .i64 9])) ∧ Own w0 w' (E ++ L)) ∨ ((Dk.toldS D n).torn = false ∧ ∃ gb cb, x = .returned (.tuple #[.slice (some ⟨gb, 0, none⟩) D.size cb, .int .i64 0]) ∧ Own w0 w' ((gb, RowP 5 1 cb (Dk.bys (Dk.bytes D n))) :: (E ++ L))) := by
  have hmay : Dk.mayE D (n : Int) = 0 := by
    unfold Dk.mayE
    rw [if_neg (by omega), hoff]; rfl
  have HM := Lib.hid hmay
  obtain ⟨gl, cl, wv, W, hW, rfl, HO1⟩ := Dk.open_ hD HO
  have htold := told_any (L := Dk.pool D ++ L) n hW (by simpa using HO1) hn (by have := hK.n2; omega) (by have := hK.few; omega)
  have HTOLD := Lib.hid htold
  have hsz := hK.s2
  have hs1 := hK.s1
  clear htold hmay
  obtain ⟨s, hs⟩ : ∃ s, Dk.toldS D n = s := ⟨_, rfl⟩
  have HS := Lib.hid hs
  rw [hs]
  rw [hs] at HTOLD
  rcases Bool.eq_false_or_eq_true s.torn with ht | ht
  · have HT := Lib.hid ht
    clear ht hs hoff
    go_enter Try.func17, Try.ntmps17
    go_wp2_with (first | (go_at_call 23; (refine (may_any n hD HO).mono ?_); rw [HM.out]; rintro e w2 ⟨rfl, rfl⟩) | (go_at_call 25; (refine HTOLD.out.mono ?_); rintro e w2 ⟨b, off, rfl, hat, hc, rfl⟩; have c2 : w.cell? ⟨b, off + 2, none⟩ = some (.bool true) := hc 2 _ (by rw [← HT.out]; rfl)) | (refine li_loadAt 4 rfl rfl rfl c2 (by kernel_rfl) ?_))
    go_ret2
    exact .inl ⟨⟨HT.out, rfl⟩, HO⟩
  · have HT := Lib.hid ht
    clear ht hoff
    have hq : ∀ (w : World) (a : Option Addr) (n c : Nat), (binOp .eql 35 (.slice a n c) (.slice none 0 0)).run Try.prog w = .ok (.bool a.isNone) w := fun w a n c => eql_slice_nil w 35 5 a n c Try.underlying35
    cases hb : s.blk with
    | none =>
      have hbytes : Dk.bytes D n = List.replicate D.size 0#8 := by unfold Dk.bytes; rw [hs, hb]
      have hv : s.v = .slice none 0 0 := by unfold Dk.Sec.v; rw [hb]
      have HBY := Lib.hid hbytes
      have HV := Lib.hid hv
      have hmx : maxLen = 9223372036854775807 := rfl
      have hml := Lib.hid (show D.size ≤ maxLen by omega)
      clear hb hs hbytes hv hmx
      go_enter Try.func17, Try.ntmps17
      go_wp2_with (first | (go_at_call 23; (refine (may_any n hD HO).mono ?_); rw [HM.out]; rintro e w2 ⟨rfl, rfl⟩) | (go_at_call 25; (refine HTOLD.out.mono ?_); rintro e w2 ⟨b, off, rfl, hat, hc, rfl⟩; have c2 : w.cell? ⟨b, off + 2, none⟩ = some (.bool false) := hc 2 _ (by rw [← HT.out]; rfl); have c0 : w.cell? ⟨b, off, none⟩ = some (.slice none 0 0) := hc 0 _ (by rw [← HV.out]; rfl)) | (refine li_loadAt 4 rfl rfl rfl c2 (by kernel_rfl) ?_) | (refine li_loadAt 35 rfl rfl rfl c0 (by kernel_rfl) ?_) | (refine li_load 0 3 rfl rfl rfl HO1 rfl rfl (by kernel_rfl) ?_) | (refine li_makeN (n := D.size) el35 rfl rfl rfl rfl (by omega) hml.out rfl HO ?_; clear HO; intro gb wb HO))
      go_ret2
      refine .inr ⟨HT.out, gb, D.size, rfl, ?_⟩
      rw [HBY.out, ← Dk.bys_zero]
      have e : (List.replicate D.size [Value.int .u8 0]).flatten = List.replicate D.size (Value.int .u8 0) := by
        generalize D.size = m
        induction m with
        | zero => rfl
        | succ m ih => simp [List.replicate_succ, ih]
      rw [e] at HO
      exact HO
    | some p =>
      obtain ⟨gb0, cb0, bs⟩ := p
      have hbytes : Dk.bytes D n = bs := by unfold Dk.bytes; rw [hs, hb]
      have hl : bs.length = D.size := Dk.told_size hK hn (by rw [hs]; exact hb)
      have hv : s.v = .slice (some ⟨gb0, 0, none⟩) D.size cb0 := by unfold Dk.Sec.v; rw [hb, ← hl]
      have hmem := Dk.ents_mem hn (by rw [hs]; exact hb)
      have hB : Bs w (.slice (some ⟨gb0, 0, none⟩) D.size cb0) bs := Bs_rowM HO (List.mem_append_left _ (List.mem_append_right _ (List.mem_append_right _ hmem))) hl
      have HBY := Lib.hid hbytes
      have HV := Lib.hid hv
      have HBS := Lib.hid hB
      clear hb hs hbytes hv hmem hB hl
      go_enter Try.func17, Try.ntmps17
      go_wp2_with (first | (go_at_call 23; (refine (may_any n hD HO).mono ?_); rw [HM.out]; rintro e w2 ⟨rfl, rfl⟩) | (go_at_call 25; (refine HTOLD.out.mono ?_); rintro e w2 ⟨b, off, rfl, hat, hc, rfl⟩; have c2 : w.cell? ⟨b, off + 2, none⟩ = some (.bool false) := hc 2 _ (by rw [← HT.out]; rfl); have c0 : w.cell? ⟨b, off, none⟩ = some (.slice (some ⟨gb0, 0, none⟩) D.size cb0) := hc 0 _ (by rw [← HV.out]; rfl)) | (refine li_loadAt 4 rfl rfl rfl c2 (by kernel_rfl) ?_) | (refine li_loadAt 35 rfl rfl rfl c0 (by kernel_rfl) ?_) | (go_at_call 24; (refine (Clone_some HO HBS.out (by omega)).mono ?_); rintro e w3 ⟨gq, cq, rfl, HO2⟩))
      go_ret2
      exact .inr ⟨HT.out, gq, cq, rfl, by rw [HBY.out]; exact HO2⟩
/-- A write that is let in: the disk behind it. -/
def Dk.wrote (D : Dk.Disk) (n g c : Nat) (bs : List Dk.Byte) : Dk.Disk := { D with waits := D.waits ++ [(n, ⟨some (g, c, bs), false, false⟩)] }
theorem Write_bad {w0 w : World} {L E : List Ent} {g m c : Nat} {a : Option Addr} {D : Dk.Disk} (n : Int) (hD : Dk.DkP g D E) (HO : Own w0 w (E ++ L)) (h : m ≠ D.size) :
    Calls Try.prog 12 #[.pointer (some ⟨g, 0, none⟩), .int .i64 n, .slice a m c] w fun x w' => x = .returned (.int .i64 1) ∧ w = w' := by
  obtain ⟨gl, cl, wv, W, hW, rfl, HO1⟩ := Dk.open_ hD HO
  have hne : ((m : Int) != (D.size : Int)) = true := by simp; omega
  go_enter Try.func12, Try.ntmps12
  go_wp2_with (refine li_load 0 3 rfl rfl rfl HO1 rfl rfl (by kernel_rfl) ?_)
  go_ret
  exact ⟨rfl, rfl⟩
set_option maxRecDepth 20000 in
theorem Write_may {w0 w : World} {L E : List Ent} {g m c : Nat} {a : Option Addr} {D : Dk.Disk} (n : Int) (hD : Dk.DkP g D E) (HO : Own w0 w (E ++ L)) (h : m = D.size) {e : Int} (he : Dk.mayE D n = e) (h0 : e ≠ 0) :
    Calls Try.prog 12 #[.pointer (some ⟨g, 0, none⟩), .int .i64 n, .slice a m c] w fun x w' => x = .returned (.int .i64 e) ∧ w = w' := by
  subst h
  obtain ⟨gl, cl, wv, W, hW, hE, HO1⟩ := Dk.open_ hD HO
  have hne : (e != 0) = true := by simp [h0]
  have HM := Lib.hid he
  clear he hE
  go_enter Try.func12, Try.ntmps12
  go_wp2_with (first | (refine li_load 0 3 rfl rfl rfl HO1 rfl rfl (by kernel_rfl) ?_) | (go_at_call 23; (refine (may_any n hD HO).mono ?_); rw [HM.out]; rintro e w2 ⟨rfl, rfl⟩))
  go_ret
  exact ⟨rfl, rfl⟩
end Go.Proofs.Ytbgjfdeolckljaa

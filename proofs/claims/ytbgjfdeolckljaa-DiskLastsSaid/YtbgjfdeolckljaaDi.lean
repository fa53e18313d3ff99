/- The chapter's example; no disk. -/
import Derived.Test.YtbgjfdeolckljaaDh
namespace Go.Proofs.Ytbgjfdeolckljaa
set_option linter.unusedVariables false
set_option linter.unusedSimpArgs false
set_option linter.unnecessarySimpa false
open Go.RowKit Go.Proofs.YtbgjfdeolckljaaW.PrintLast
namespace Dk
theorem new_ok (n k : Nat) (n1 : 1 ≤ n) (n2 : n ≤ 65536) (k1 : 16 ≤ k) (k2 : k ≤ 4096) : Ok ⟨k, List.replicate n zero, [], false⟩ :=
  ⟨by simpa using n1, by simpa using n2, k1, k2, by simp, by simp, fun s g c b hs hb => by
    rcases hs with hs | ⟨n, hs⟩
    · rw [(List.mem_replicate.1 hs).2] at hb; cases hb
    · simp at hs⟩
theorem wrote_ok {D : Disk} (h : Ok D) {n g c : Nat} {bs : List Byte} (hn : n < D.lasts.length) (hb : bs.length = D.size) (hf : D.waits.length < 100000) : Ok (wrote D n g c bs) := by
  refine ⟨h.n1, h.n2, h.s1, h.s2, fun x hx => ?_, by simp [wrote]; omega, fun s g' c' b hs hb' => ?_⟩
  · rcases List.mem_append.1 hx with hx | hx
    · exact h.wn x hx
    · rw [List.mem_singleton.1 hx]; exact hn
  · rcases hs with hs | ⟨m, hs⟩
    · exact h.bs s g' c' b (.inl hs) hb'
    · rcases List.mem_append.1 hs with hs | hs
      · exact h.bs s g' c' b (.inr ⟨m, hs⟩) hb'
      · have := List.mem_singleton.1 hs
        injection this with _ e
        subst e
        injection hb' with e
        injection e with _ e
        injection e with _ e
        subst e; exact hb
theorem on_ok {D : Disk} (h : Ok D) : Ok { D with off := false } := ⟨h.n1, h.n2, h.s1, h.s2, h.wn, h.few, h.bs⟩
end Dk
theorem Bs_head {w0 w : World} {L : List Ent} {g n : Nat} {l : List (BitVec 8)} (HO : Own w0 w ((g, RowP 5 1 n (Dk.bys l)) :: L)) (hl : l.length = n) : Bs w (.slice (some ⟨g, 0, none⟩) n n) l := Bs_rowM HO (by simp) hl
set_option maxRecDepth 20000 in
set_option maxHeartbeats 8000000 in
theorem alive_any {w0 w : World} {L : List Ent} (HO : Own w0 w L) :
    Calls Try.prog 9 #[] w fun e w' => e = .returned (.bool true) ∧ Own w0 w' L := by
  have hK0 := Dk.new_ok 3 16 (by decide) (by decide) (by decide) (by decide)
  go_enter Try.func9, Try.ntmps9
  go_wp2_with (fail)
  go_at_call 10; refine (DNew_yes 3 16 HO (by decide) (by decide) (by decide) (by decide)).mono ?_; rintro e w1 ⟨g, E, rfl, hD, HO1⟩
  clear HO
  go_wp2_with (fail)
  go_at_call 13; refine (filled_any 16 1#8 HO1 (by decide)).mono ?_; rintro e w2 ⟨g1, rfl, HO2⟩
  clear HO1
  go_wp2_with (fail)
  go_at_call 12; refine (Write_ok 1 hK0 hD (Own.mid (A := [_]) (B := E) HO2) (by decide) rfl (Bs_head HO2 rfl)).mono ?_; rintro e w3 ⟨rfl, gb, cb, E1, hD1, HO3⟩
  have hK1 := Dk.wrote_ok (n := 1) (g := gb) (c := cb) (bs := List.replicate 16 1#8) hK0 (by decide) rfl (by decide)
  clear HO2
  go_wp2_with (fail)
  go_at_call 11; refine (Flush_ok hK1 hD1 HO3 rfl).mono ?_; rintro e w4 ⟨rfl, E2, hD2, HO4⟩
  have hK2 := Dk.flushed_ok hK1
  clear HO3
  go_wp2_with (fail)
  go_at_call 13; refine (filled_any 16 2#8 HO4 (by decide)).mono ?_; rintro e w5 ⟨g2, rfl, HO5⟩
  clear HO4
  go_wp2_with (fail)
  go_at_call 12; refine (Write_ok 1 hK2 hD2 (Own.mid (A := [_]) (B := E2) HO5) (by simp [Dk.flushed, Dk.fl_len, Dk.wrote]) rfl (Bs_head HO5 rfl)).mono ?_; rintro e w6 ⟨rfl, gc, cc, E3, hD3, HO6⟩
  have hK3 := Dk.wrote_ok (n := 1) (g := gc) (c := cc) (bs := List.replicate 16 2#8) hK2 (by simp [Dk.flushed, Dk.fl_len, Dk.wrote]) rfl (by simp [Dk.flushed])
  clear HO5
  go_wp2_with (fail)
  have hwl : (Dk.wrote (Dk.flushed (Dk.wrote ⟨16, List.replicate 3 Dk.zero, [], false⟩ 1 gb cb (List.replicate 16 1#8))) 1 gc cc (List.replicate 16 2#8)).waits.length = 1 := rfl
  go_at_call 16; refine (Waits_any hD3 HO6).mono ?_; rw [hwl]; rintro e w7 ⟨rfl, rfl⟩
  clear hwl
  go_wp2_with (fail)
  go_at_call 14; refine (Cut_on (keep := []) (-1) hK3 hD3 HO6 rfl (Kb_nil _) (by decide)).mono ?_; rintro e w8 ⟨rfl, E4, hD4, HO7⟩
  have hK4 := Dk.cut_ok hK3 [] (-1)
  clear HO6
  go_wp2_with (fail)
  go_at_call 17; refine (Read_bad 1 hD4 HO7 (e := 10) rfl (by decide)).mono ?_; rintro e w9 ⟨rfl, rfl⟩
  go_wp2_with (fail)
  go_at_call 15; refine (On_any hD4 HO7).mono ?_; rintro e w10 ⟨rfl, E5, hD5, HO8⟩
  have hK5 := Dk.on_ok hK4
  clear HO7
  have hts : Dk.toldS { Dk.cut (Dk.wrote (Dk.flushed (Dk.wrote ⟨16, List.replicate 3 Dk.zero, [], false⟩ 1 gb cb (List.replicate 16 1#8))) 1 gc cc (List.replicate 16 2#8)) [] (-1) with off := false } 1 = ⟨some (gb, cb, List.replicate 16 1#8), false, false⟩ := rfl
  have hby : Dk.bytes { Dk.cut (Dk.wrote (Dk.flushed (Dk.wrote ⟨16, List.replicate 3 Dk.zero, [], false⟩ 1 gb cb (List.replicate 16 1#8))) 1 gc cc (List.replicate 16 2#8)) [] (-1) with off := false } 1 = List.replicate 16 1#8 := by unfold Dk.bytes; rw [hts]
  go_wp2_with (fail)
  go_at_call 17; refine (Read_ok 1 hK5 hD5 HO8 (by simp [Dk.cut, Dk.flushed, Dk.fl_len, Dk.wrote]) rfl).mono ?_; rw [hts, hby]; rintro e w11 (⟨⟨ht, _⟩, _⟩ | ⟨_, gz, cz, rfl, HO9⟩)
  · cases ht
  clear HO8 hts hby hK0 hK1 hK2 hK3 hK4 hK5 hD hD1 hD2 hD3 hD4 hD5
  have h16 : Dk.bys (List.replicate 16 1#8) = List.replicate 16 (.int .u8 1) := rfl
  rw [h16] at HO9
  have hsz : ∀ D : Dk.Disk, D.size = 16 → (D.size : Int) = 16 := fun D h => by rw [h]; rfl
  clear hsz
  go_wp2_with (refine li_loadRow 0 5 rfl rfl (off := 0) rfl HO9 rfl rfl (by kernel_rfl) ?_)
  go_ret
  exact ⟨rfl, HO9.sub (.cons _ (((List.sublist_append_right _ _).trans (List.sublist_append_right _ _)).trans (List.sublist_append_right _ _)))⟩
end Go.Proofs.Ytbgjfdeolckljaa

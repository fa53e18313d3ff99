/- What a sketch owns; the counter of a key in a row. -/
import Derived.Test.YtdjcgfknlhijiaaSa
import Derived.Test.YtdjcgfknlhijiaaWLast
namespace Go.Proofs.Ytdjcgfknlhijiaa
set_option linter.unusedVariables false
set_option linter.unusedSimpArgs false
set_option linter.unnecessarySimpa false
open Go.RowKit Go.Proofs.YtdjcgfknlhijiaaW.PrintLast
/-- A row of counters: its block, what it holds. -/
abbrev Row := Nat × List Int
def cells64 (l : List Int) : List Value := l.map (.int .i64)
def rowE (p : Row) : Ent := (p.1, RowP 3 1 p.2.length (cells64 p.2))
def rowV (p : Row) : Value := .slice (some ⟨p.1, 0, none⟩) p.2.length p.2.length
/-- A sketch: its struct, its row of rows, its rows. -/
def SkE (g gr cap : Nat) (af ad : Int) (R : List Row) : List Ent :=
  (g, CellsP 50 [.slice (some ⟨gr, 0, none⟩) R.length cap, .int .i64 af, .int .i64 ad]) :: (gr, RowP 33 1 cap (R.map rowV)) :: R.map rowE
section
variable {w0 w : World} {L : List Ent} {g gr cap : Nat} {af ad : Int} {R : List Row}
theorem SkE_row {j b : Nat} {l : List Int} (h : R[j]? = some (b, l)) : (SkE g gr cap af ad R ++ L)[j + 2]? = some (b, RowP 3 1 l.length (cells64 l)) := by
  have hj := (List.getElem?_eq_some_iff.1 h).1
  simp only [SkE, List.cons_append, List.getElem?_cons_succ]
  rw [List.getElem?_append_left (by simpa using hj)]
  simp [h, rowE]
theorem SkE_set {j : Nat} {b : Nat} {l : List Int} (h : R[j]? = some (b, l)) (c : Nat) (v : Int) :
    (SkE g gr cap af ad R ++ L).set (j + 2) (b, RowP 3 1 l.length ((cells64 l).set c (.int .i64 v))) = SkE g gr cap af ad (R.set j (b, l.set c v)) ++ L := by
  have hj := (List.getElem?_eq_some_iff.1 h).1
  have hg := (List.getElem?_eq_some_iff.1 h).2
  have hV : (R.set j (b, l.set c v)).map rowV = R.map rowV := by
    rw [List.map_set]
    have : rowV (b, l.set c v) = (R.map rowV)[j]'(by simpa using hj) := by simp [hg, rowV]
    rw [this, List.set_getElem_self]
  unfold SkE
  rw [hV]
  simp only [List.cons_append, List.set_cons_succ, List.length_set]
  rw [List.set_append_left _ _ (by simpa using hj), List.map_set]
  have e : rowE (b, l.set c v) = (b, RowP 3 1 l.length ((cells64 l).set c (.int .i64 v))) := by simp [rowE, cells64, List.map_set]
  rw [e]
end
theorem cells64_get {l : List Int} {c : Nat} (h : c < l.length) : (cells64 l)[c]? = some (.int .i64 l[c]) := by simp [cells64, h]
set_option maxRecDepth 20000 in
set_option maxHeartbeats 2000000 in
theorem counter_any {w0 w : World} {L : List Ent} {g gr cap : Nat} {af ad : Int} {R : List Row} (key r : Int) (b : Nat) (l : List Int) (HO : Own w0 w (SkE g gr cap af ad R ++ L)) (k1 : 0 ≤ key) (k2 : key < 18446744073709551616) (r0 : 0 ≤ r) (hj : R[r.toNat]? = some (b, l)) (hl1 : 1 ≤ l.length) (hl2 : l.length ≤ 65536) (hR : R.length ≤ 8) :
    Calls Try.prog 22 #[.pointer (some ⟨g, 0, none⟩), .int .u64 key, .int .i64 r] w fun e w' => e = .returned (.pointer (some ⟨b, Sk.ixn key r l.length, none⟩)) ∧ w = w' := by
  have hjl := (List.getElem?_eq_some_iff.1 hj).1
  obtain ⟨len, hlen⟩ : ∃ len : Int, (l.length : Int) = len := ⟨_, rfl⟩
  obtain ⟨i1, i2⟩ := Sk.ix_bd key r len (by omega)
  obtain ⟨lw, hlw⟩ : ∃ lw, IntKind.u64.wrap ((r + 1) * 11400714819323198485) = lw := ⟨_, rfl⟩
  have l1 := Sk.wr_bd ((r + 1) * 11400714819323198485)
  rw [hlw] at l1
  obtain ⟨x1, x2⟩ := Sk.bx_bd k1 k2 l1.1 l1.2
  obtain ⟨X, hX⟩ : ∃ X, bits .xor .u64 key lw = X := ⟨_, rfl⟩
  rw [hX] at x1 x2
  obtain ⟨M, hM⟩ : ∃ M, Sk.mix X = M := ⟨_, rfl⟩
  obtain ⟨m1, m2⟩ := Sk.mix_bd X
  rw [hM] at m1 m2
  have hix : M % len = Sk.ix key r len := by unfold Sk.ix Sk.low; rw [hlw, hX, hM]
  obtain ⟨I, hI⟩ : ∃ I, Sk.ix key r len = I := ⟨_, rfl⟩
  rw [hI] at hix i1 i2
  have e4 : IntKind.u64.wrap (M.tmod len) = I := by
    rw [Int.tmod_eq_emod_of_nonneg m1, hix]
    exact IntWalk.u64_in _ (by omega)
  have e1 : IntKind.i64.wrap (r + 1) = r + 1 := IntWalk.i64_in _ (by omega)
  have e2 : IntKind.u64.wrap (r + 1) = r + 1 := IntWalk.u64_in _ (by omega)
  have e3 : IntKind.u64.wrap len = len := IntWalk.u64_in _ (by omega)
  go_enter Try.func22, Try.ntmps22
  go_wp2_with (first | (refine li_load 0 48 rfl rfl rfl HO rfl rfl (by kernel_rfl) ?_))
  go_at_call 25
  refine (Mul64_any _ _ _ (by omega) (by omega) (by omega) (by omega)).mono ?_
  rw [hlw]
  have H1 := Lib.hid hlw
  have H2 := Lib.hid l1
  clear hlw l1
  rintro e w1 ⟨⟨hi, rfl⟩, rfl⟩
  go_wp2_with (first | (refine li_load 0 48 rfl rfl rfl HO rfl rfl (by kernel_rfl) ?_) | (go_at_call 26; refine (mix_any _ _ (by omega) (by omega)).mono ?_; rw [hM]; rintro e w1 ⟨rfl, rfl⟩) | (refine li_loadRow 1 33 rfl rfl (off := r.toNat) rfl HO rfl (v := rowV (b, l)) (by simp [hj]) (by kernel_rfl) ?_; unfold rowV))
  go_ret
  exact ⟨by rw [hlen, Sk.ixn_eq, hI]; rfl, rfl⟩
end Go.Proofs.Ytdjcgfknlhijiaa

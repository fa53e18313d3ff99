/- A disk as it lies in memory; its small functions. -/
import Derived.Test.YtbgjfdeolckljaaRows
import Derived.Test.YtbgjfdeolckljaaD
import Derived.Test.YtbgjfdeolckljaaG
import Derived.Test.YtbgjfdeolckljaaWLast
import Derived.Laws.BitsAllLaws
namespace Go.Proofs.Ytbgjfdeolckljaa
set_option linter.unusedVariables false
set_option linter.unusedSimpArgs false
set_option linter.unnecessarySimpa false
open Go.RowKit Go.Proofs.YtbgjfdeolckljaaW.PrintLast
namespace Dk
abbrev Byte := BitVec 8
def bys (l : List Byte) : List Value := l.map fun b => .int .u8 (b.toNat : Int)
theorem bys_len (l : List Byte) : (bys l).length = l.length := by simp [bys]
/-- What a sector holds: its bytes, and where they lie. -/
structure Sec where
  blk : Option (Nat × Nat × List Byte)
  turned : Bool
  torn : Bool
def Sec.v (s : Sec) : Value := match s.blk with | none => .slice none 0 0 | some (g, cap, bs) => .slice (some ⟨g, 0, none⟩) bs.length cap
def Sec.cells (s : Sec) : List Value := [s.v, .bool s.turned, .bool s.torn]
def Sec.ents (s : Sec) : List Ent := match s.blk with | none => [] | some (g, cap, bs) => [(g, RowP 5 1 cap (bys bs))]
def wcells (x : Nat × Sec) : List Value := .int .i64 (x.1 : Int) :: x.2.cells
def zero : Sec := ⟨none, false, false⟩
structure Disk where
  size : Nat
  lasts : List Sec
  waits : List (Nat × Sec)
  off : Bool
/-- The slice of what waits: none, or a row. -/
inductive WP (wv : Value) : List (Nat × Sec) → List Ent → Prop where
  | nil : wv = .slice none 0 0 → WP wv [] []
  | row (l : List (Nat × Sec)) (g c : Nat) : wv = .slice (some ⟨g, 0, none⟩) l.length c → 0 < l.length → WP wv l [(g, RowP 67 4 c (l.flatMap wcells))]
def pool (D : Disk) : List Ent := D.lasts.flatMap Sec.ents ++ D.waits.flatMap fun x => x.2.ents
def hd (g gl cl : Nat) (wv : Value) (D : Disk) : List Ent := [(g, CellsP 62 [.int .i64 (D.size : Int), .slice (some ⟨gl, 0, none⟩) D.lasts.length cl, wv, .bool D.off]), (gl, RowP 65 3 cl (D.lasts.flatMap Sec.cells))]
/-- What a disk owns. -/
def DkP (g : Nat) (D : Disk) (E : List Ent) : Prop := ∃ gl cl wv W, WP wv D.waits W ∧ E = hd g gl cl wv D ++ (W ++ pool D)
/-- A disk as it may be. -/
structure Ok (D : Disk) : Prop where
  n1 : 1 ≤ D.lasts.length
  n2 : D.lasts.length ≤ 65536
  s1 : 16 ≤ D.size
  s2 : D.size ≤ 4096
  wn : ∀ x ∈ D.waits, x.1 < D.lasts.length
  few : D.waits.length ≤ 100000
  bs : ∀ s g c b, (s ∈ D.lasts ∨ ∃ n, (n, s) ∈ D.waits) → s.blk = some (g, c, b) → b.length = D.size
end Dk
theorem el129 : Elem Try.prog 59 65 3 32 (.agg #[.slice none 0 0, .bool false, .bool false]) := elem_mk (by kernel_rfl) (by kernel_rfl) rfl (by decide)
theorem el130 : Elem Try.prog 60 67 4 40 (.agg #[.int .i64 0, .slice none 0 0, .bool false, .bool false]) := elem_mk (by kernel_rfl) (by kernel_rfl) rfl (by decide)
theorem el35 : Elem Try.prog 35 5 1 1 (.int .u8 0) := elem_mk (by kernel_rfl) (by kernel_rfl) rfl (by decide)
theorem flat_zero (n : Nat) : (List.replicate n [Value.slice none 0 0, .bool false, .bool false]).flatten = (List.replicate n Dk.zero).flatMap Dk.Sec.cells := by
  rw [List.flatMap_def, List.map_replicate]
  rfl
set_option maxRecDepth 20000 in
theorem DNew_yes {w0 w : World} {L : List Ent} (n k : Nat) (HO : Own w0 w L) (n1 : 1 ≤ n) (n2 : n ≤ 65536) (k1 : 16 ≤ k) (k2 : k ≤ 4096) :
    Calls Try.prog 10 #[.int .i64 (n : Int), .int .i64 (k : Int)] w fun e w' => ∃ g E, e = .returned (.tuple #[.pointer (some ⟨g, 0, none⟩), .int .i64 0]) ∧ Dk.DkP g ⟨k, List.replicate n Dk.zero, [], false⟩ E ∧ Own w0 w' (E ++ L) := by
  have h1 : decide ((n : Int) < 1) = false := decide_eq_false (by omega)
  have h2 : decide ((65536 : Int) < (n : Int)) = false := decide_eq_false (by omega)
  have h3 : decide ((k : Int) < 16) = false := decide_eq_false (by omega)
  have h4 : decide ((4096 : Int) < (k : Int)) = false := decide_eq_false (by omega)
  have hmx : maxLen = 9223372036854775807 := rfl
  have hm := Lib.hid (show n ≤ maxLen by omega)
  clear hmx
  go_enter Try.func10, Try.ntmps10
  go_wp2_with (first | (refine li_makeN (n := n) el129 rfl rfl rfl rfl (by omega) hm.out rfl HO ?_; clear HO; intro gl wl HO) | (refine li_boxAgg 62 rfl rfl rfl HO ?_; clear HO; intro gb wb HO))
  go_ret2
  refine ⟨gb, _, rfl, ⟨gl, n, .slice none 0 0, [], .nil rfl, rfl⟩, ?_⟩
  rw [flat_zero] at HO
  have hp : Dk.pool ⟨k, List.replicate n Dk.zero, [], false⟩ = [] := by
    unfold Dk.pool
    simp [Dk.zero, Dk.Sec.ents]
  rw [hp]
  simpa [Dk.hd] using HO
set_option maxRecDepth 20000 in
theorem DNew_no {w : World} (n k : Int) (h : n < 1 ∨ 65536 < n ∨ k < 16 ∨ 4096 < k) :
    Calls Try.prog 10 #[.int .i64 n, .int .i64 k] w fun e w' => e = .returned (.tuple #[.pointer none, .int .i64 1]) ∧ w = w' := by
  have H := Lib.hid h
  clear h
  go_enter Try.func10, Try.ntmps10
  go_wp2
  all_goals first | (exfalso; have := H.out; omega) | (go_ret2; exact ⟨rfl, rfl⟩)
end Go.Proofs.Ytbgjfdeolckljaa

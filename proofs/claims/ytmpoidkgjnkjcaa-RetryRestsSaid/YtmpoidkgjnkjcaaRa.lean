/- Contracts of chapter 55's small functions: the timer and the fuse of package retry, for every state within its bounds, in every world. -/
import Derived.Test.YtmpoidkgjnkjcaaRows
import Derived.Test.YtmpoidkgjnkjcaaK
import Derived.WalkKit
import Derived.WalkSpells
import Derived.WalkLawsBesides
import Derived.Deep.QuietTactic
import Derived.BigQuiet
import Derived.RegionTactic
import Derived.Deep.RegionHeld3
import Derived.Deep.DeepCutAuto
import Derived.WalkSmall
import Derived.Deep.Draws
import Derived.Laws.OwnMore
import Derived.Laws.Rows
import Derived.Lib.Hide
import Derived.LaidEqlPtr
namespace Go.Proofs.Ytmpoidkgjnkjcaa
open Go.RowKit
def Blk (w : World) (g : Nat) (t : TypeId) (cs : Array Value) : Prop := w.heap[g]? = some (.cells cs t (0, 0))

section
variable {w w' : World} {g : Nat} {t : TypeId} {cs : Array Value}
theorem Blk.lt (h : Blk w g t cs) : g < w.heap.size := by
  rcases Nat.lt_or_ge g w.heap.size with hlt | hge
  · exact hlt
  · unfold Blk at h; rw [Array.getElem?_eq_none hge] at h; cases h
theorem Blk.cell (h : Blk w g t cs) (i : Nat) : w.cell? ⟨g, i, none⟩ = cs[i]? := cell_of_row w g i cs t (0, 0) h
theorem Blk.frozen (h : Blk w g t cs) (i : Nat) : w.frozen? ⟨g, i, none⟩ = false := by
  unfold Blk at h
  simp [World.frozen?, h]
theorem Blk.new (w : World) (t : TypeId) (cs : Array Value) : Blk (w.alloc (.cells cs t)) w.heap.size t cs := heap_alloc_new w _
theorem Blk.drew (h : Blk w g t cs) : Blk w.drew g t cs := h
theorem Blk.drewN (h : Blk w g t cs) (n : Nat) : Blk (w.drewN n) g t cs := h
theorem Blk.alloc (h : Blk w g t cs) (o : Obj) : Blk (w.alloc o) g t cs := (Below.heap_alloc w o g h.lt).trans h
theorem Blk.set_ (h : Blk w g t cs) (i : Nat) (u : Value) : Blk (w.setCell ⟨g, i, none⟩ u) g t (cs.setIfInBounds i u) := by
  unfold Blk at h ⊢
  simp [World.setCell, Array.getElem?_modify, h]
theorem Blk.far (h : Blk w g t cs) {p : Addr} (hp : g ≠ p.block) (u : Value) : Blk (w.setCell p u) g t cs := (Below.heap_setCell w p u g hp).trans h
theorem Blk.below {B : Nat} (h : Blk w g t cs) (hb : Below B w w') (hg : g < B) : Blk w' g t cs := (hb.block g hg).trans h
theorem Blk.grown {row : Option Nat} (h : Blk w g t cs) (hb : w.grownBy w' row) (hg : some g ≠ row) : Blk w' g t cs := (hb.block g h.lt hg).trans h
theorem Blk.ne_ {g' : Nat} {t' : TypeId} {cs' : Array Value} (h : Blk w g t cs) (h' : Blk w g' t' cs') (hne : t ≠ t') : g ≠ g' := by
  rintro rfl
  unfold Blk at h h'
  rw [h] at h'
  injection h' with h'
  injection h' with _ ht
  exact hne ht
end
namespace Rt
def held (n : Int) : Int := min (max n 0) 1099511627776
theorem held_bd (n : Int) : 0 ≤ held n ∧ held n ≤ 1099511627776 := by unfold held; omega
def rests (n : Int) : Bool := decide (1 ≤ n) && decide (n ≤ 1099511627776)
/-- The rest behind so many failures more than one. -/
def dbl (f m : Int) : Nat → Int
  | 0 => f
  | n + 1 => min (2 * dbl f m n) m
theorem dbl_bd (f m : Int) (h1 : 1 ≤ f) (h2 : f ≤ m) (n : Nat) : 1 ≤ dbl f m n ∧ dbl f m n ≤ m := by
  induction n with
  | zero => exact ⟨h1, h2⟩
  | succ n ih => unfold dbl; omega
theorem dbl_top (f m : Int) (h1 : 1 ≤ f) (h2 : f ≤ m) (n : Nat) (h : dbl f m n = m) (k : Nat) (hk : n ≤ k) : dbl f m k = m := by
  induction k with
  | zero => have : n = 0 := by omega
            subst this; exact h
  | succ k ih =>
    by_cases e : n = k + 1
    · rw [← e]; exact h
    · have h3 := ih (by omega)
      unfold dbl; rw [h3]; omega
end Rt


theorem held_any (n : Int) (w : World) :
    Calls Try.prog 24 #[.int .i64 n] w fun e w' => e = .returned (.int .i64 (Rt.held n)) ∧ w = w' := by
  go_enter Try.func24, Try.ntmps24
  go_wp2
  all_goals
    go_ret
    exact ⟨ret_i (by unfold Rt.held; omega), rfl⟩
theorem Tick_any (n : Int) (w : World) :
    Calls Try.prog 27 #[.int .i64 n] w fun e w' => e = .returned (.int .i64 (Rt.held n)) ∧ w = w' := by
  go_enter Try.func27, Try.ntmps27
  go_wp2
  all_goals
    go_ret
    exact ⟨ret_i (by unfold Rt.held; omega), rfl⟩
theorem rests_any (n : Int) (w : World) :
    Calls Try.prog 23 #[.int .i64 n] w fun e w' => e = .returned (.bool (Rt.rests n)) ∧ w = w' := by
  go_enter Try.func23, Try.ntmps23
  go_wp2
  all_goals
    go_ret
    exact ⟨ret_b (by unfold Rt.rests; simp; try omega), rfl⟩
/-- May a timer be? -/
def Rt.ok (n f m : Int) : Bool := decide (0 ≤ n) && decide (n ≤ 1000) && Rt.rests f && Rt.rests m && decide (f ≤ m)
theorem New_no (n f m : Int) (w : World) (h : Rt.ok n f m = false) :
    Calls Try.prog 9 #[.int .i64 n, .int .i64 f, .int .i64 m] w fun e w' => e = .returned (.tuple #[.pointer none, .int .i64 1]) ∧ w = w' := by
  by_cases h1 : n < 0
  · go_enter Try.func9, Try.ntmps9
    go_wp2_with (go_at_call 23; refine (rests_any _ _).mono ?_; rintro e w' ⟨rfl, rfl⟩)
    go_ret2
    exact ⟨rfl, rfl⟩
  · by_cases h2 : 1000 < n
    · go_enter Try.func9, Try.ntmps9
      go_wp2_with (go_at_call 23; refine (rests_any _ _).mono ?_; rintro e w' ⟨rfl, rfl⟩)
      go_ret2
      exact ⟨rfl, rfl⟩
    · by_cases h3 : Rt.rests f = true
      · by_cases h4 : Rt.rests m = true
        · have h5 : m < f := by unfold Rt.ok at h; simp [h3, h4] at h; omega
          go_enter Try.func9, Try.ntmps9
          go_wp2_with (go_at_call 23; refine (rests_any _ _).mono ?_; rintro e w' ⟨rfl, rfl⟩)
          go_ret2
          exact ⟨rfl, rfl⟩
        · have h4 : Rt.rests m = false := by simpa using h4
          go_enter Try.func9, Try.ntmps9
          go_wp2_with (go_at_call 23; refine (rests_any _ _).mono ?_; rintro e w' ⟨rfl, rfl⟩)
          go_ret2
          exact ⟨rfl, rfl⟩
      · have h3 : Rt.rests f = false := by simpa using h3
        go_enter Try.func9, Try.ntmps9
        go_wp2_with (go_at_call 23; refine (rests_any _ _).mono ?_; rintro e w' ⟨rfl, rfl⟩)
        go_ret2
        exact ⟨rfl, rfl⟩
theorem New_yes (n f m : Int) (w : World) (h : Rt.ok n f m = true) :
    Calls Try.prog 9 #[.int .i64 n, .int .i64 f, .int .i64 m] w fun e w' => e = .returned (.tuple #[.pointer (some ⟨w.heap.size, 0, none⟩), .int .i64 0]) ∧
      Blk w' w.heap.size 59 #[.int .i64 n, .int .i64 f, .int .i64 m, .int .i64 0, .int .i64 0] ∧ Below w.heap.size w w' := by
  unfold Rt.ok at h
  simp only [Bool.and_eq_true, decide_eq_true_eq] at h
  obtain ⟨⟨⟨⟨h1, h2⟩, h3⟩, h4⟩, h5⟩ := h
  go_enter Try.func9, Try.ntmps9
  go_wp2_with (go_at_call 23; refine (rests_any _ _).mono ?_; rintro e w' ⟨rfl, rfl⟩)
  go_ret2
  refine ⟨rfl, ?_, ?_⟩
  · with_reducible exact Blk.new _ _ _
  · exact (Below.refl _ _).alloc (Nat.le_refl _) _
end Go.Proofs.Ytmpoidkgjnkjcaa

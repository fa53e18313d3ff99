/- Contracts of the small functions of chapter 34 (held, Age, Said, ends, the reference's Held, Age, Said, State), for every input and world. -/
import Derived.Test.YtedncfpcbdnpjaaRows
import Derived.WalkKit
import Derived.WalkSpells
import Derived.WalkLawsBesides
import Derived.Deep.QuietTactic
import Derived.BigQuiet
import Derived.RegionTactic
import Derived.Deep.RegionHeld3
import Derived.Deep.DeepCutAuto
import Derived.WalkSmall
import Derived.Deep.Draws
import Derived.Laws.OwnMore
import Derived.Laws.Rows
namespace Go.Proofs.Ytedncfpcbdnpjaa
open Go.RowKit
def Blk (w : World) (g : Nat) (t : TypeId) (cs : Array Value) : Prop := w.heap[g]? = some (.cells cs t (0, 0))

section
variable {w w' : World} {g : Nat} {t : TypeId} {cs : Array Value}
theorem Blk.lt (h : Blk w g t cs) : g < w.heap.size := by
  rcases Nat.lt_or_ge g w.heap.size with hlt | hge
  · exact hlt
  · unfold Blk at h; rw [Array.getElem?_eq_none hge] at h; cases h
theorem Blk.cell (h : Blk w g t cs) (i : Nat) : w.cell? ⟨g, i, none⟩ = cs[i]? := cell_of_row w g i cs t (0, 0) h
theorem Blk.frozen (h : Blk w g t cs) (i : Nat) : w.frozen? ⟨g, i, none⟩ = false := by
  unfold Blk at h
  simp [World.frozen?, h]
theorem Blk.new (w : World) (t : TypeId) (cs : Array Value) : Blk (w.alloc (.cells cs t)) w.heap.size t cs := heap_alloc_new w _
theorem Blk.new1 (w : World) (o : Obj) (cs : Array Value) (t : TypeId) : Blk ((w.alloc o).alloc (.cells cs t)) (w.heap.size + 1) t cs := by
  have h := Blk.new (w.alloc o) t cs
  rwa [World.size_alloc] at h
theorem Blk.drew (h : Blk w g t cs) : Blk w.drew g t cs := h
theorem Blk.drewN (h : Blk w g t cs) (n : Nat) : Blk (w.drewN n) g t cs := h
theorem Blk.alloc (h : Blk w g t cs) (o : Obj) : Blk (w.alloc o) g t cs := (Below.heap_alloc w o g h.lt).trans h
theorem Blk.set_ (h : Blk w g t cs) (i : Nat) (u : Value) : Blk (w.setCell ⟨g, i, none⟩ u) g t (cs.setIfInBounds i u) := by
  unfold Blk at h ⊢
  simp [World.setCell, Array.getElem?_modify, h]
theorem Blk.far (h : Blk w g t cs) {p : Addr} (hp : g ≠ p.block) (u : Value) : Blk (w.setCell p u) g t cs := (Below.heap_setCell w p u g hp).trans h
theorem Blk.below {B : Nat} (h : Blk w g t cs) (hb : Below B w w') (hg : g < B) : Blk w' g t cs := (hb.block g hg).trans h
theorem Blk.grown {row : Option Nat} (h : Blk w g t cs) (hb : w.grownBy w' row) (hg : some g ≠ row) : Blk w' g t cs := (hb.block g h.lt hg).trans h
theorem Blk.ne_ {g' : Nat} {t' : TypeId} {cs' : Array Value} (h : Blk w g t cs) (h' : Blk w g' t' cs') (hne : t ≠ t') : g ≠ g' := by
  rintro rfl
  unfold Blk at h h'
  rw [h] at h'
  injection h' with h'
  injection h' with _ ht
  exact hne ht
end
theorem bcell {W w1 : World} (hb : Below W.heap.size W w1) : (∀ b o, b < W.heap.size → w1.cell? ⟨b, o, none⟩ = W.cell? ⟨b, o, none⟩) ∧ (∀ b o, b < W.heap.size → w1.frozen? ⟨b, o, none⟩ = W.frozen? ⟨b, o, none⟩) :=
  ⟨fun b o h => hb.cell (p := ⟨b, o, none⟩) h, fun b o h => hb.frozen (p := ⟨b, o, none⟩) h⟩
namespace Fr
def held (n : Int) : Int := min (max n 0) 1099511627776
theorem held_bd (n : Int) : 0 ≤ held n ∧ held n ≤ 1099511627776 := by unfold held; omega
def age (s n : Int) : Int := max (held n - held s) 0
def rage (s n : Int) : Int := if held s > held n then 0 else held n - held s
def said (n a : Int) : Int := max (held n - held a) 0
end Fr
theorem ret_i {k : IntKind} {a b : Int} (h : a = b) : Ending.returned (.int k a) = .returned (.int k b) := by rw [h]
theorem ret_v {a b : Value} (h : a = b) : Ending.returned a = .returned b := by rw [h]
theorem ints_eq {a b : Int} (h : a = b) : (Value.int .i64 a) = .int .i64 b := by rw [h]
theorem ret_b {a b : Bool} (h : a = b) : Ending.returned (.bool a) = .returned (.bool b) := by rw [h]
/-- A callee that leaves the world alone, met in a region that draws its order. -/
theorem quiet_eq {P : Program} {f : FuncId} {args : Array Value} {w : World} {n : Nat} {v : Value}
    (h : Calls P f args (w.drewN n) fun e w' => e = .returned v ∧ w.drewN n = w') : Calls P f args (w.drewN n) fun e w'' => e = .returned v ∧ ∃ m, w'' = w.drewN m :=
  h.mono fun _ _ ⟨he, hm⟩ => ⟨he, n, hm.symm⟩
theorem quiet_add_left {P : Program} {f : FuncId} {args : Array Value} {w : World} {a n : Nat} {v : Value}
    (h : Calls P f args (w.drewN (a + n)) fun e w' => e = .returned v ∧ w.drewN (a + n) = w') :
    Calls P f args (w.drewN (a + n)) fun e w'' => e = .returned v ∧ ∃ m, w'' = w.drewN (a + m) :=
  h.mono fun _ _ ⟨he, hm⟩ => ⟨he, n, hm.symm⟩
theorem held_any (n : Int) (w : World) :
    Calls Try.prog 22 #[.int .i64 n] w fun e w' => e = .returned (.int .i64 (Fr.held n)) ∧ w = w' := by
  go_enter Try.func22, Try.ntmps22
  go_wp2
  all_goals
    go_ret
    exact ⟨ret_i (by unfold Fr.held; omega), rfl⟩
theorem Age_any (s n : Int) (w : World) :
    Calls Try.prog 16 #[.int .i64 s, .int .i64 n] w fun e w' => e = .returned (.int .i64 (Fr.age s n)) ∧ w = w' := by
  have b1 := Fr.held_bd s
  have b2 := Fr.held_bd n
  obtain ⟨b1, b3⟩ := b1
  obtain ⟨b2, b4⟩ := b2
  go_enter Try.func16, Try.ntmps16
  go_wp2_with (go_at_call 22; refine (held_any _ _).mono ?_; rintro e w' ⟨rfl, rfl⟩)
  all_goals
    go_ret
    exact ⟨ret_i (by unfold Fr.age; omega), rfl⟩
theorem Said_any (s n : Int) (w : World) :
    Calls Try.prog 18 #[.int .i64 s, .int .i64 n] w fun e w' => e = .returned (.int .i64 (Fr.said s n)) ∧ w = w' := by
  have b1 := Fr.held_bd s
  have b2 := Fr.held_bd n
  obtain ⟨b1, b3⟩ := b1
  obtain ⟨b2, b4⟩ := b2
  go_enter Try.func18, Try.ntmps18
  go_wp2_with (go_at_call 22; refine (held_any _ _).mono ?_; rintro e w' ⟨rfl, rfl⟩)
  all_goals
    go_ret
    exact ⟨ret_i (by unfold Fr.said; omega), rfl⟩
theorem Most_any (w : World) :
    Calls Try.prog 12 #[] w fun e w' => e = .returned (.int .i64 1099511627776) ∧ w = w' := by
  go_enter Try.func12, Try.ntmps12
  go_wp2
  go_ret
  exact ⟨rfl, rfl⟩
theorem RHeld_any (n : Int) (w : World) :
    Calls Try.prog 14 #[.int .i64 n] w fun e w' => e = .returned (.int .i64 (Fr.held n)) ∧ w = w' := by
  go_enter Try.func14, Try.ntmps14
  go_wp2_with (go_at_call 12; refine (Most_any _).mono ?_; rintro e w' ⟨rfl, rfl⟩)
  all_goals
    go_ret
    exact ⟨ret_i (by unfold Fr.held; omega), rfl⟩
theorem RAge_any (s n : Int) (w : World) :
    Calls Try.prog 17 #[.int .i64 s, .int .i64 n] w fun e w' => e = .returned (.int .i64 (Fr.age s n)) ∧ w = w' := by
  have b1 := Fr.held_bd s
  have b2 := Fr.held_bd n
  obtain ⟨b1, b3⟩ := b1
  obtain ⟨b2, b4⟩ := b2
  go_enter Try.func17, Try.ntmps17
  go_wp2_with (go_at_call 14; refine (RHeld_any _ _).mono ?_; rintro e w' ⟨rfl, rfl⟩)
  all_goals
    go_ret
    exact ⟨ret_i (by unfold Fr.age; omega), rfl⟩
theorem RSaid_any (s n : Int) (w : World) :
    Calls Try.prog 19 #[.int .i64 s, .int .i64 n] w fun e w' => e = .returned (.int .i64 (Fr.said s n)) ∧ w = w' := by
  have b1 := Fr.held_bd s
  have b2 := Fr.held_bd n
  obtain ⟨b1, b3⟩ := b1
  obtain ⟨b2, b4⟩ := b2
  go_enter Try.func19, Try.ntmps19
  go_wp2_with (go_at_call 14; refine (RHeld_any _ _).mono ?_; rintro e w' ⟨rfl, rfl⟩)
  all_goals
    go_ret
    exact ⟨ret_i (by unfold Fr.said; omega), rfl⟩
def RSt (f wh e s n : Int) : Int := if Fr.age s n < Fr.held f then 1 else if Fr.age s n < Fr.held f + Fr.held wh then 2 else if Fr.age s n < Fr.held f + Fr.held e then 3 else 4
/-- A version as a value. -/
abbrev meta_ (x0 x1 x2 x3 x4 x8 x9 x10 : Value) (f wh er : Int) : Value := .agg #[x0, x1, x2, x3, x4, .int .i64 f, .int .i64 wh, .int .i64 er, x8, x9, x10]
set_option maxHeartbeats 1000000 in
theorem RState_any (x0 x1 x2 x3 x4 x8 x9 x10 : Value) (f wh er s n : Int) (w : World) :
    Calls Try.prog 15 #[meta_ x0 x1 x2 x3 x4 x8 x9 x10 f wh er, .int .i64 s, .int .i64 n] w fun e w' => e = .returned (.int .i64 (RSt f wh er s n)) ∧ Below w.heap.size w w' := by
  obtain ⟨b1, b2⟩ := Fr.held_bd f
  obtain ⟨b3, b4⟩ := Fr.held_bd wh
  obtain ⟨b5, b6⟩ := Fr.held_bd er
  go_enter Try.func15, Try.ntmps15
  go_wp2_with (first | (go_at_call 17; refine (RAge_any _ _ _).mono ?_; rintro e w' ⟨rfl, rfl⟩) | (go_at_call 14; refine (RHeld_any _ _).mono ?_; rintro e w' ⟨rfl, rfl⟩))
  all_goals try go_quiet ((go_at_call 14; first | exact quiet_eq (RHeld_any _ _) | exact quiet_add_left (RHeld_any _ _)))
  all_goals go_wp2
  all_goals try go_quiet ((go_at_call 14; first | exact quiet_eq (RHeld_any _ _) | exact quiet_add_left (RHeld_any _ _)))
  all_goals go_wp2
  all_goals
    go_ret
    refine ⟨ret_i ?_, by repeat (with_reducible first | exact Below.refl _ _ | refine below_drewN ?_ _ | refine Below.drew ?_ | refine Below.alloc ?_ (by simp) _ | refine Below.setCell ?_ (by simp) _)⟩
    unfold RSt
    repeat (first | rw [if_pos (by omega)] | rw [if_neg (by omega)])
theorem ends_any (x0 x1 x2 x3 x4 x8 x9 x10 : Value) (f wh er : Int) (w : World) :
    Calls Try.prog 23 #[meta_ x0 x1 x2 x3 x4 x8 x9 x10 f wh er] w fun e w' => e = .returned (.agg #[.int .i64 0, .int .i64 (Fr.held f), .int .i64 (Fr.held f + Fr.held wh), .int .i64 (Fr.held f + max (Fr.held wh) (Fr.held er))]) ∧ Below w.heap.size w w' := by
  obtain ⟨b1, b2⟩ := Fr.held_bd f
  obtain ⟨b3, b4⟩ := Fr.held_bd wh
  obtain ⟨b5, b6⟩ := Fr.held_bd er
  go_enter Try.func23, Try.ntmps23
  go_wp2_with fail
  all_goals try go_quiet ((go_at_call 22; exact quiet_eq (held_any _ _)))
  all_goals go_wp2
  all_goals
    refine bodyPost_ret (v := .agg #[.int .i64 0, .int .i64 (Fr.held f), .int .i64 (Fr.held f + Fr.held wh), .int .i64 (Fr.held f + max (Fr.held wh) (Fr.held er))]) (by simp [results, Try.results23, go_sem]; omega) rfl ⟨rfl, ?_⟩
    repeat (with_reducible first | exact Below.refl _ _ | refine below_drewN ?_ _ | refine Below.drew ?_ | refine Below.alloc ?_ (by simp) _ | refine Below.setCell ?_ (by simp) _)
end Go.Proofs.Ytedncfpcbdnpjaa

/- The sums' mathematics: a shift register of 32 bits. No program in sight. -/
namespace Go.Proofs.Ytaidfofcijnbeaa.Crc
set_option linter.unusedVariables false
set_option linter.unusedSimpArgs false
set_option linter.unnecessarySimpa false
def poly : BitVec 32 := 0xEDB88320#32
/-- One bit on. -/
def T (x : BitVec 32) : BitVec 32 := (x >>> 1) ^^^ (if x.getLsbD 0 then poly else 0#32)
def Tn : Nat → BitVec 32 → BitVec 32
  | 0, x => x
  | n + 1, x => Tn n (T x)
theorem T_xor (x y : BitVec 32) : T (x ^^^ y) = T x ^^^ T y := by
  unfold T
  rw [BitVec.ushiftRight_xor_distrib, BitVec.getLsbD_xor]
  generalize x >>> 1 = u
  generalize y >>> 1 = v
  apply BitVec.eq_of_getLsbD_eq
  intro i _
  cases x.getLsbD 0 <;> cases y.getLsbD 0 <;> simp only [BitVec.getLsbD_xor, Bool.xor_false, Bool.false_xor, Bool.xor_true, Bool.true_xor, Bool.not_true, Bool.not_false, if_true, if_false, Bool.false_eq_true, BitVec.getLsbD_zero] <;> cases u.getLsbD i <;> cases v.getLsbD i <;> cases poly.getLsbD i <;> rfl
theorem T_zero : T 0#32 = 0#32 := by decide +kernel
theorem T_nought {x : BitVec 32} (h : T x = 0#32) : x = 0#32 := by
  have h31 : (T x).getLsbD 31 = x.getLsbD 0 := by
    unfold T
    rw [BitVec.getLsbD_xor, BitVec.getLsbD_ushiftRight]
    have e : x.getLsbD (1 + 31) = false := BitVec.getLsbD_of_ge _ _ (by omega)
    rw [e]
    cases x.getLsbD 0 <;> simp [poly]
  rw [h] at h31
  have h0 : x.getLsbD 0 = false := by rw [← h31]; rfl
  have hs : x >>> 1 = 0#32 := by
    unfold T at h
    rw [h0] at h
    simpa using h
  apply BitVec.eq_of_getLsbD_eq
  intro i hi
  cases i with
  | zero => rw [h0]; rfl
  | succ i =>
    have := congrArg (fun b => b.getLsbD i) hs
    simp only [BitVec.getLsbD_ushiftRight] at this
    rw [Nat.add_comm] at this
    rw [this]; simp
theorem T_inj {x y : BitVec 32} (h : T x = T y) : x = y := by
  have : T (x ^^^ y) = 0#32 := by rw [T_xor, h, BitVec.xor_self]
  have h2 := T_nought this
  exact BitVec.xor_eq_zero_iff.1 h2
theorem Tn_xor : ∀ (n : Nat) (x y : BitVec 32), Tn n (x ^^^ y) = Tn n x ^^^ Tn n y
  | 0, _, _ => rfl
  | n + 1, x, y => by simp only [Tn]; rw [T_xor, Tn_xor n]
theorem Tn_zero : ∀ n : Nat, Tn n 0#32 = 0#32
  | 0 => rfl
  | n + 1 => by simp only [Tn]; rw [T_zero, Tn_zero n]
theorem Tn_add : ∀ (a b : Nat) (x : BitVec 32), Tn (a + b) x = Tn b (Tn a x)
  | 0, b, x => by simp [Tn]
  | a + 1, b, x => by
    rw [show a + 1 + b = (a + b) + 1 by omega]
    simp only [Tn]
    exact Tn_add a b (T x)
theorem Tn_succ (n : Nat) (x : BitVec 32) : Tn (n + 1) x = T (Tn n x) := Tn_add n 1 x
theorem Tn_inj : ∀ (n : Nat) {x y : BitVec 32}, Tn n x = Tn n y → x = y
  | 0, _, _, h => h
  | n + 1, _, _, h => T_inj (Tn_inj n h)
/-- A byte more. -/
def by8 (c : BitVec 32) (b : BitVec 8) : BitVec 32 := Tn 8 (c ^^^ b.setWidth 32)
def fold (c : BitVec 32) (l : List (BitVec 8)) : BitVec 32 := l.foldl by8 c
theorem fold_append (c : BitVec 32) (l m : List (BitVec 8)) : fold c (l ++ m) = fold (fold c l) m := by simp [fold]
theorem by8_xor (c d : BitVec 32) (b : BitVec 8) : by8 (c ^^^ d) b = by8 c b ^^^ Tn 8 d := by
  unfold by8
  rw [← Tn_xor]
  congr 1
  rw [BitVec.xor_assoc, BitVec.xor_comm d, ← BitVec.xor_assoc]
theorem fold_xor : ∀ (l : List (BitVec 8)) (c d : BitVec 32), fold (c ^^^ d) l = fold c l ^^^ Tn (8 * l.length) d
  | [], c, d => rfl
  | b :: l, c, d => by
    show fold (by8 (c ^^^ d) b) l = fold (by8 c b) l ^^^ _
    rw [by8_xor, fold_xor l, ← Tn_add]
    congr 2
    simp; omega
/-- The sum of a text behind one of this sum. -/
def more (s : BitVec 32) (l : List (BitVec 8)) : BitVec 32 := ~~~ (fold (~~~ s) l)
def crc (l : List (BitVec 8)) : BitVec 32 := more 0#32 l
theorem more_append (s : BitVec 32) (l m : List (BitVec 8)) : more (more s l) m = more s (l ++ m) := by
  unfold more
  rw [BitVec.not_not, fold_append]
theorem not_xor (x y : BitVec 32) : ~~~ (x ^^^ y) = x ^^^ ~~~ y := by
  apply BitVec.eq_of_getLsbD_eq
  intro i hi
  simp [hi]
theorem more_join (s : BitVec 32) (l : List (BitVec 8)) : more s l = Tn (8 * l.length) s ^^^ crc l := by
  unfold crc more
  have e : ~~~ s = ~~~ 0#32 ^^^ s := by
    rw [BitVec.xor_comm, ← not_xor, BitVec.xor_zero]
  rw [e, fold_xor, BitVec.xor_comm, not_xor]
/-- Two sums of texts, one behind the other. -/
def join (a b : BitVec 32) (n : Nat) : BitVec 32 := Tn (8 * n) a ^^^ b
theorem crc_join (l m : List (BitVec 8)) : join (crc l) (crc m) m.length = crc (l ++ m) := by
  unfold join
  rw [← more_join]
  exact more_append _ _ _
/-! ### Rows of what becomes of each bit -/
def one (i : Nat) : BitVec 32 := 1#32 <<< i
theorem one_bit (i j : Nat) (hj : j < 32) : (one i).getLsbD j = decide (i = j) := by
  unfold one
  rw [BitVec.getLsbD_shiftLeft]
  simp only [BitVec.getLsbD_one]
  by_cases h : i = j
  · subst h; simp [hj]
  · simp [h]; omega
/-- The lowest bits of a number. -/
def low (v : BitVec 32) (k : Nat) : BitVec 32 := v &&& (BitVec.ofNat 32 (2 ^ k - 1))
def sums (f : BitVec 32 → BitVec 32) (v : BitVec 32) : Nat → BitVec 32
  | 0 => 0#32
  | k + 1 => sums f v k ^^^ (if v.getLsbD k then f (one k) else 0#32)
def parts (v : BitVec 32) : Nat → BitVec 32 := sums id v
theorem parts_bit (v : BitVec 32) : ∀ k j, j < 32 → (parts v k).getLsbD j = (decide (j < k) && v.getLsbD j)
  | 0, j, _ => by simp [parts, sums]
  | k + 1, j, hj => by
    have h := parts_bit v k j hj
    unfold parts at h ⊢
    simp only [sums, BitVec.getLsbD_xor, h, id]
    by_cases e : k = j
    · subst e
      cases v.getLsbD k <;> simp [one_bit k k hj]
    · have e2 : decide (j < k + 1) = decide (j < k) := by simp; omega
      rw [e2]
      cases v.getLsbD k <;> simp [one_bit k j hj, e]
theorem parts_all (v : BitVec 32) : parts v 32 = v := by
  apply BitVec.eq_of_getLsbD_eq
  intro j hj
  rw [parts_bit v 32 j hj]
  simp [hj]
theorem sums_lin (f : BitVec 32 → BitVec 32) (h0 : f 0#32 = 0#32) (hx : ∀ x y, f (x ^^^ y) = f x ^^^ f y) (v : BitVec 32) : ∀ k, sums f v k = f (parts v k)
  | 0 => by simp [parts, sums, h0]
  | k + 1 => by
    have := sums_lin f h0 hx v k
    unfold parts at this ⊢
    simp only [sums, hx, this, id]
    cases v.getLsbD k <;> simp [h0]
theorem sums_Tn (n : Nat) (v : BitVec 32) : sums (Tn n) v 32 = Tn n v := by
  rw [sums_lin _ (Tn_zero n) (Tn_xor n), parts_all]
/-- The row whose power is so many bits. -/
def row (n : Nat) : List (BitVec 32) := (List.range 32).map fun i => Tn n (one i)
theorem row_get (n i : Nat) (h : i < 32) : (row n)[i]? = some (Tn n (one i)) := by simp [row, h]
theorem row_len (n : Nat) : (row n).length = 32 := by simp [row]
theorem row_twice (n i : Nat) : sums (Tn n) (Tn n (one i)) 32 = Tn (n + n) (one i) := by rw [sums_Tn, Tn_add]
end Go.Proofs.Ytaidfofcijnbeaa.Crc

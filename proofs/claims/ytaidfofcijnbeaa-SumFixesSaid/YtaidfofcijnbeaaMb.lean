/- The sums' mathematics: bits turned, and the four bytes that make a sum another one. No program in sight. -/
import Derived.Test.YtaidfofcijnbeaaMa
namespace Go.Proofs.Ytaidfofcijnbeaa.Crc
set_option linter.unusedVariables false
set_option linter.unusedSimpArgs false
set_option linter.unnecessarySimpa false
/-! ### Bits turned -/
def flip (l : List (BitVec 8)) (k : Nat) : List (BitVec 8) := l.set (k / 8) ((l.getD (k / 8) 0#8) ^^^ (1#8 <<< (k % 8)))
theorem flip_len (l : List (BitVec 8)) (k : Nat) : (flip l k).length = l.length := by simp [flip]
theorem by8_flip (c : BitVec 32) (b : BitVec 8) (j : Nat) (hj : j < 8) : by8 c (b ^^^ (1#8 <<< j)) = by8 c b ^^^ Tn 8 (one j) := by
  unfold by8
  rw [← Tn_xor, BitVec.xor_assoc]
  congr 2
  rw [BitVec.setWidth_xor]
  congr 1
  apply BitVec.eq_of_getLsbD_eq
  intro i hi
  rw [one_bit j i hi, BitVec.getLsbD_setWidth, BitVec.getLsbD_shiftLeft, BitVec.getLsbD_one]
  by_cases e : j = i
  · subst e; simp [hj]; omega
  · simp [e]; omega
theorem fold_flip : ∀ (l : List (BitVec 8)) (c : BitVec 32) (q j : Nat), q < l.length → j < 8 → fold c (l.set q (l.getD q 0#8 ^^^ (1#8 <<< j))) = fold c l ^^^ Tn (8 * (l.length - q)) (one j)
  | [], _, _, _, h, _ => by simp at h
  | b :: l, c, 0, j, _, hj => by
    show fold (by8 c (b ^^^ _)) l = fold (by8 c b) l ^^^ _
    rw [by8_flip c b j hj, fold_xor, ← Tn_add]
    congr 2
    simp; omega
  | b :: l, c, q + 1, j, h, hj => by
    show fold (by8 c b) (l.set q (l.getD q 0#8 ^^^ _)) = fold (by8 c b) l ^^^ _
    rw [fold_flip l _ q j (by simpa using h) hj]
    congr 2
    simp
theorem one_T (j : Nat) (h : j + 1 < 32) : T (one (j + 1)) = one j := by
  unfold T
  rw [one_bit _ 0 (by omega)]
  simp only [Nat.add_eq_zero_iff, Nat.succ_ne_self, and_false, decide_false, Bool.false_eq_true, if_false, BitVec.xor_zero]
  apply BitVec.eq_of_getLsbD_eq
  intro i hi
  rw [BitVec.getLsbD_ushiftRight, one_bit j i hi]
  by_cases e : 1 + i < 32
  · rw [one_bit _ _ e]; simp; omega
  · rw [BitVec.getLsbD_of_ge _ _ (by omega)]
    simp; omega
theorem one_Tn : ∀ j : Nat, j < 32 → Tn j (one j) = one 0
  | 0, _ => rfl
  | j + 1, h => by simp only [Tn]; rw [one_T j h, one_Tn j (by omega)]
theorem Tn_one (N j : Nat) (hj : j < 32) (h : j ≤ N) : Tn N (one j) = Tn (N - j) (one 0) := by
  rw [show N = j + (N - j) by omega, Tn_add, one_Tn j hj]
  congr 1; omega
theorem fold_turn (l : List (BitVec 8)) (c : BitVec 32) (p i : Nat) (hi : i < 32) (hp : p + 32 ≤ 8 * l.length) : fold c (flip l (p + i)) = fold c l ^^^ Tn (8 * l.length - p) (one i) := by
  unfold flip
  rw [fold_flip l c _ _ (by omega) (by omega), Tn_one (8 * (l.length - (p + i) / 8)) _ (by omega) (by omega), Tn_one (8 * l.length - p) i hi (by omega)]
  congr 2
  omega
theorem crc_turn (l : List (BitVec 8)) (p i : Nat) (hi : i < 32) (hp : p + 32 ≤ 8 * l.length) : crc (flip l (p + i)) = crc l ^^^ Tn (8 * l.length - p) (one i) := by
  unfold crc more
  rw [fold_turn l _ p i hi hp, BitVec.xor_comm, not_xor, BitVec.xor_comm]
/-- What is there behind so many of the bits to turn. -/
def turns (l : List (BitVec 8)) (p : Nat) (v : BitVec 32) : Nat → List (BitVec 8)
  | 0 => l
  | i + 1 => if v.getLsbD i then flip (turns l p v i) (p + i) else turns l p v i
theorem turns_len (l : List (BitVec 8)) (p : Nat) (v : BitVec 32) : ∀ i, (turns l p v i).length = l.length
  | 0 => rfl
  | i + 1 => by
    simp only [turns]
    split
    · rw [flip_len, turns_len l p v i]
    · exact turns_len l p v i
theorem turns_crc (l : List (BitVec 8)) (p : Nat) (v : BitVec 32) (hp : p + 32 ≤ 8 * l.length) : ∀ i, i ≤ 32 → crc (turns l p v i) = crc l ^^^ sums (Tn (8 * l.length - p)) v i
  | 0, _ => by simp [turns, sums]
  | i + 1, h => by
    have ih := turns_crc l p v hp i (by omega)
    simp only [turns, sums]
    cases v.getLsbD i
    · simp [ih]
    · simp only [if_true]
      rw [crc_turn _ p i (by omega) (by rw [turns_len]; exact hp), ih, turns_len, BitVec.xor_assoc]
theorem turns_other (l : List (BitVec 8)) (p : Nat) (v : BitVec 32) (hp : p + 32 ≤ 8 * l.length) (hv : v ≠ 0#32) : crc (turns l p v 32) ≠ crc l := by
  rw [turns_crc l p v hp 32 (Nat.le_refl _), sums_Tn]
  intro h
  have h2 : Tn (8 * l.length - p) v = 0#32 := by
    have := congrArg (fun x => crc l ^^^ x) h
    simpa [← BitVec.xor_assoc] using this
  exact hv (Tn_inj _ (h2.trans (Tn_zero _).symm))
/-! ### The four bytes -/
def tab (k : Nat) : BitVec 32 := Tn 8 (BitVec.ofNat 32 k)
def inv : List Nat := [0, 65, 195, 130, 134, 199, 69, 4, 77, 12, 142, 207, 203, 138, 8, 73, 154, 219, 89, 24, 28, 93, 223, 158, 215, 150, 20, 85, 81, 16, 146, 211, 117, 52, 182, 247, 243, 178, 48, 113, 56, 121, 251, 186, 190, 255, 125, 60, 239, 174, 44, 109, 105, 40, 170, 235, 162, 227, 97, 32, 36, 101, 231, 166, 234, 171, 41, 104, 108, 45, 175, 238, 167, 230, 100, 37, 33, 96, 226, 163, 112, 49, 179, 242, 246, 183, 53, 116, 61, 124, 254, 191, 187, 250, 120, 57, 159, 222, 92, 29, 25, 88, 218, 155, 210, 147, 17, 80, 84, 21, 151, 214, 5, 68, 198, 135, 131, 194, 64, 1, 72, 9, 139, 202, 206, 143, 13, 76, 149, 212, 86, 23, 19, 82, 208, 145, 216, 153, 27, 90, 94, 31, 157, 220, 15, 78, 204, 141, 137, 200, 74, 11, 66, 3, 129, 192, 196, 133, 7, 70, 224, 161, 35, 98, 102, 39, 165, 228, 173, 236, 110, 47, 43, 106, 232, 169, 122, 59, 185, 248, 252, 189, 63, 126, 55, 118, 244, 181, 177, 240, 114, 51, 127, 62, 188, 253, 249, 184, 58, 123, 50, 115, 241, 176, 180, 245, 119, 54, 229, 164, 38, 103, 99, 34, 160, 225, 168, 233, 107, 42, 46, 111, 237, 172, 10, 75, 201, 136, 140, 205, 79, 14, 71, 6, 132, 197, 193, 128, 2, 67, 144, 209, 83, 18, 22, 87, 213, 148, 221, 156, 30, 95, 91, 26, 152, 217]
theorem tab_hits : ((List.range 256).all fun t => decide (inv.getD t 0 < 256) && decide ((tab (inv.getD t 0)).toNat / 16777216 = t)) = true := by decide +kernel
theorem tab_hit (t : Nat) (h : t < 256) : ∃ k, k < 256 ∧ (tab k).toNat / 16777216 = t := by
  have := List.all_eq_true.1 tab_hits t (List.mem_range.2 h)
  simp only [Bool.and_eq_true, decide_eq_true_eq] at this
  exact ⟨_, this.1, this.2⟩
theorem low_split (x : BitVec 32) : x = (x >>> 8) <<< 8 ^^^ (x.setWidth 8).setWidth 32 := by
  apply BitVec.eq_of_getLsbD_eq
  intro i hi
  rw [BitVec.getLsbD_xor, BitVec.getLsbD_shiftLeft, BitVec.getLsbD_ushiftRight, BitVec.getLsbD_setWidth, BitVec.getLsbD_setWidth]
  by_cases e : i < 8
  · simp [e, hi]
  · rw [show 8 + (i - 8) = i by omega]
    simp [e, hi]
theorem T_shl (x : BitVec 32) (k : Nat) (h : ∀ i, 31 - k ≤ i → x.getLsbD i = false) (hk : k < 31) : T (x <<< (k + 1)) = x <<< k := by
  unfold T
  rw [BitVec.getLsbD_shiftLeft]
  simp
  apply BitVec.eq_of_getLsbD_eq
  intro i hi
  rw [BitVec.getLsbD_ushiftRight, BitVec.getLsbD_shiftLeft, BitVec.getLsbD_shiftLeft]
  by_cases e : 1 + i < 32
  · rw [show 1 + i - (k + 1) = i - k by omega]
    by_cases e2 : i < k
    · simp [e2, hi, e]; omega
    · simp [e2, hi, e]
      omega
  · have : i = 31 := by omega
    subst this
    simp
    intro _
    exact h _ (by omega)
theorem Tn_shl (x : BitVec 32) : ∀ k : Nat, k ≤ 8 → (∀ i, 24 ≤ i → x.getLsbD i = false) → Tn k (x <<< k) = x
  | 0, _, _ => by simp [Tn]
  | k + 1, hk, h => by
    simp only [Tn]
    rw [T_shl x k (fun i hi => h i (by omega)) (by omega)]
    exact Tn_shl x k (by omega) h
/-- A byte more, by the table. -/
theorem by8_tab (c : BitVec 32) (b : BitVec 8) : by8 c b = (c >>> 8) ^^^ tab ((c.setWidth 8) ^^^ b).toNat := by
  have e : c ^^^ b.setWidth 32 = (c >>> 8) <<< 8 ^^^ ((c.setWidth 8) ^^^ b).setWidth 32 := by
    conv => lhs; arg 1; rw [low_split c]
    rw [BitVec.xor_assoc, BitVec.setWidth_xor]
  unfold by8 tab
  rw [e, Tn_xor, Tn_shl (c >>> 8) 8 (by omega) (fun i hi => by
    rw [BitVec.getLsbD_ushiftRight]
    exact BitVec.getLsbD_of_ge _ _ (by omega))]
  congr 2
  apply BitVec.eq_of_toNat_eq
  simp [BitVec.toNat_setWidth]
/-- From behind: a sum whose highest byte is a row's. -/
def back (reg : BitVec 32) (k : Nat) : BitVec 32 := (reg ^^^ tab k) <<< 8
theorem back_eq (reg : BitVec 32) (k : Nat) (h : (tab k).toNat / 16777216 = reg.toNat / 16777216) : reg = tab k ^^^ back reg k >>> 8 := by
  have hx : ∀ i, 24 ≤ i → (reg ^^^ tab k).getLsbD i = false := by
    intro i hi
    have h2 : (tab k) >>> 24 = reg >>> 24 := by
      apply BitVec.eq_of_toNat_eq
      rw [BitVec.toNat_ushiftRight, BitVec.toNat_ushiftRight, Nat.shiftRight_eq_div_pow, Nat.shiftRight_eq_div_pow]
      exact h
    have h3 := congrArg (fun b => b.getLsbD (i - 24)) h2
    simp only [BitVec.getLsbD_ushiftRight] at h3
    rw [show 24 + (i - 24) = i by omega] at h3
    rw [BitVec.getLsbD_xor, h3]
    simp
  unfold back
  apply BitVec.eq_of_getLsbD_eq
  intro i hi
  rw [BitVec.getLsbD_xor, BitVec.getLsbD_ushiftRight, BitVec.getLsbD_shiftLeft]
  rw [show 8 + i - 8 = i by omega]
  by_cases e : i < 24
  · have e1 : 8 + i < 32 := by omega
    have e2 : ¬ (8 + i < 8) := by omega
    simp [e1, e2]
    cases (tab k).getLsbD i <;> simp [e2]
  · have := hx i (by omega)
    rw [BitVec.getLsbD_xor] at this
    rw [BitVec.getLsbD_xor, this]
    simp
    revert this
    cases (tab k).getLsbD i <;> cases reg.getLsbD i <;> simp
/-- From ahead. -/
def ahead (reg : BitVec 32) : List Nat → BitVec 32
  | [] => reg
  | k :: r => ahead ((reg >>> 8) ^^^ tab k) r
def bytesOf (reg : BitVec 32) : List Nat → List (BitVec 8)
  | [] => []
  | k :: r => (reg.setWidth 8 ^^^ BitVec.ofNat 8 k) :: bytesOf ((reg >>> 8) ^^^ tab k) r
theorem fold_bytesOf : ∀ (ks : List Nat) (reg : BitVec 32), (∀ k ∈ ks, k < 256) → fold reg (bytesOf reg ks) = ahead reg ks
  | [], _, _ => rfl
  | k :: r, reg, h => by
    show fold (by8 reg _) (bytesOf _ r) = ahead _ r
    rw [by8_tab]
    have hk := h k (by simp)
    have e : (reg.setWidth 8 ^^^ (reg.setWidth 8 ^^^ BitVec.ofNat 8 k)).toNat = k := by
      rw [← BitVec.xor_assoc, BitVec.xor_self, BitVec.zero_xor, BitVec.toNat_ofNat]
      omega
    rw [e]
    exact fold_bytesOf r _ (fun x hx => h x (by simp [hx]))
/-- Four rows found from behind lead from any sum to that one. -/
theorem four (reg want : BitVec 32) (k0 k1 k2 k3 : Nat) (h3 : (tab k3).toNat / 16777216 = want.toNat / 16777216)
    (h2 : (tab k2).toNat / 16777216 = (back want k3).toNat / 16777216) (h1 : (tab k1).toNat / 16777216 = (back (back want k3) k2).toNat / 16777216)
    (h0 : (tab k0).toNat / 16777216 = (back (back (back want k3) k2) k1).toNat / 16777216) : ahead reg [k0, k1, k2, k3] = want := by
  have e3 := back_eq want k3 h3
  have e2 := back_eq _ k2 h2
  have e1 := back_eq _ k1 h1
  have e0 := back_eq _ k0 h0
  simp only [ahead]
  generalize hw0 : back (back (back (back want k3) k2) k1) k0 = w0 at e0
  rw [e0] at e1
  rw [e1] at e2
  rw [e2] at e3
  rw [e3]
  rw [BitVec.xor_comm _ (tab k3)]
  congr 1
  simp only [BitVec.ushiftRight_xor_distrib]
  have z : ∀ x : BitVec 32, x >>> 8 >>> 8 >>> 8 >>> 8 = 0#32 := by
    intro x
    simp only [← BitVec.shiftRight_add]
    apply BitVec.eq_of_getLsbD_eq
    intro i hi
    rw [BitVec.getLsbD_ushiftRight]
    rw [BitVec.getLsbD_of_ge _ _ (by omega)]; simp
  rw [z, z]
  simp [BitVec.xor_comm]
end Go.Proofs.Ytaidfofcijnbeaa.Crc

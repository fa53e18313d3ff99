/- The sketch's numbers: how a key is mixed, by the code and by the reference. -/
import Derived.Test.YtdjcgfknlhijiaaRows
import Derived.Test.YtdjcgfknlhijiaaK
import Derived.WalkKit
import Derived.WalkSpells
import Derived.WalkLawsBesides
import Derived.Deep.QuietTactic
import Derived.BigQuiet
import Derived.RegionTactic
import Derived.Deep.RegionHeld3
import Derived.Deep.DeepCutAuto
import Derived.WalkSmall
import Derived.Deep.Draws
import Derived.Laws.OwnMore
import Derived.Laws.Rows
import Derived.Lib.Hide
import Derived.LaidEqlPtr
import Derived.Test.YtdjcgfknlhijiaaS
import Derived.Laws.BitsAllLaws
namespace Go.Proofs.Ytdjcgfknlhijiaa
set_option linter.unusedVariables false
set_option linter.unusedSimpArgs false
set_option linter.unnecessarySimpa false
open Go.RowKit
namespace Sk
theorem wr_bd (n : Int) : 0 ≤ IntKind.u64.wrap n ∧ IntKind.u64.wrap n < 18446744073709551616 := by rw [IntKind.wrap_u64]; omega
theorem bx_bd {a b : Int} (h1 : 0 ≤ a) (h2 : a < 18446744073709551616) (h3 : 0 ≤ b) (h4 : b < 18446744073709551616) : 0 ≤ bits .xor .u64 a b ∧ bits .xor .u64 a b < 18446744073709551616 := by
  rw [u64_xor a b h1 h2 h3 h4]
  have : a.toNat ^^^ b.toNat < 2 ^ 64 := Nat.xor_lt_two_pow (by omega) (by omega)
  omega
/-- A number's bits, mixed. -/
def m1 (x : Int) : Int := IntKind.u64.wrap (bits .xor .u64 x (x / 1073741824) * 13787848793156543929)
def m2 (x : Int) : Int := IntKind.u64.wrap (bits .xor .u64 x (x / 134217728) * 10723151780598845931)
def m3 (x : Int) : Int := bits .xor .u64 x (x / 2147483648)
def mix (x : Int) : Int := m3 (m2 (m1 x))
theorem m1_bd (x : Int) : 0 ≤ m1 x ∧ m1 x < 18446744073709551616 := wr_bd _
theorem m2_bd (x : Int) : 0 ≤ m2 x ∧ m2 x < 18446744073709551616 := wr_bd _
theorem m3_bd {x : Int} (h1 : 0 ≤ x) (h2 : x < 18446744073709551616) : 0 ≤ m3 x ∧ m3 x < 18446744073709551616 := bx_bd h1 h2 (by omega) (by omega)
theorem mix_bd (x : Int) : 0 ≤ mix x ∧ mix x < 18446744073709551616 := m3_bd (m2_bd _).1 (m2_bd _).2
/-- What a key is turned by in a row. -/
def low (r : Int) : Int := IntKind.u64.wrap ((r + 1) * 11400714819323198485)
/-- The counter of a key in a row. -/
def ix (x r wd : Int) : Int := mix (bits .xor .u64 x (low r)) % wd
theorem ix_bd (x r wd : Int) (h : 1 ≤ wd) : 0 ≤ ix x r wd ∧ ix x r wd < wd := ⟨Int.emod_nonneg _ (by omega), Int.emod_lt_of_pos _ (by omega)⟩
/-- The same, as a name that nothing looks behind. -/
theorem ixn_ex : ∃ f : Int → Int → Int → Nat, ∀ k r w, f k r w = (ix k r w).toNat := ⟨fun k r w => (ix k r w).toNat, fun _ _ _ => rfl⟩
noncomputable def ixn : Int → Int → Int → Nat := Classical.choose ixn_ex
theorem ixn_eq (k r w : Int) : ixn k r w = (ix k r w).toNat := Classical.choose_spec ixn_ex k r w
theorem toNat_lt_aid (i : Int) (n : Nat) (h : i < n) (h0 : 0 ≤ i) : i.toNat < n := by omega
theorem ixn_lt (k r : Int) (n : Nat) (h : 1 ≤ n) : ixn k r n < n := by
  rw [ixn_eq]
  obtain ⟨h1, h2⟩ := ix_bd k r n (by omega)
  exact toNat_lt_aid _ _ h2 h1
theorem ixn_val (k r w : Int) (h : 1 ≤ w) : ix k r w = (ixn k r w : Int) := by
  rw [ixn_eq]
  exact (Int.toNat_of_nonneg (ix_bd k r w h).1).symm
end Sk
theorem mix_any (x : Int) (w : World) (h0 : 0 ≤ x) (h1 : x < 18446744073709551616) :
    Calls Try.prog 26 #[.int .u64 x] w fun e w' => e = .returned (.int .u64 (Sk.mix x)) ∧ w = w' := by
  go_enter Try.func26, Try.ntmps26
  go_wp2
  go_ret
  exact ⟨rfl, rfl⟩
theorem Mul64_any (x y : Int) (w : World) (h0 : 0 ≤ x) (h1 : x < 18446744073709551616) (h2 : 0 ≤ y) (h3 : y < 18446744073709551616) :
    Calls Try.prog 25 #[.int .u64 x, .int .u64 y] w fun e w' => (∃ hi, e = .returned (.tuple #[.int .u64 hi, .int .u64 (IntKind.u64.wrap (x * y))])) ∧ w = w' := by
  go_enter Try.func25, Try.ntmps25
  go_wp2
  go_ret2
  exact ⟨⟨_, rfl⟩, rfl⟩
theorem Mix_any (x r wd : Int) (w : World) (h0 : 0 ≤ x) (h1 : x < 18446744073709551616) (h2 : 0 ≤ r) (h3 : r ≤ 7) (h4 : 1 ≤ wd) (h5 : wd ≤ 65536) :
    Calls Try.prog 23 #[.int .u64 x, .int .i64 r, .int .i64 wd] w fun e w' => e = .returned (.int .i64 (Sk.ixn x r wd : Int)) ∧ w = w' := by
  obtain ⟨b1, b2⟩ := Sk.wr_bd ((r + 1) * 11400714819323198485)
  obtain ⟨y, hy⟩ : ∃ y, bits .xor .u64 x (IntKind.u64.wrap ((r + 1) * 11400714819323198485)) = y := ⟨_, rfl⟩
  obtain ⟨c1, c2⟩ : 0 ≤ y ∧ y < 18446744073709551616 := hy ▸ Sk.bx_bd h0 h1 b1 b2
  have e1 : IntKind.u64.wrap (y.tdiv 1073741824) = y / 1073741824 := IntWalk.u64_quo y _ (by omega)
  obtain ⟨z, hz⟩ : ∃ z, IntKind.u64.wrap (bits .xor .u64 y (y / 1073741824) * 13787848793156543929) = z := ⟨_, rfl⟩
  obtain ⟨d1, d2⟩ : 0 ≤ z ∧ z < 18446744073709551616 := hz ▸ Sk.wr_bd _
  have e2 : IntKind.u64.wrap (z.tdiv 134217728) = z / 134217728 := IntWalk.u64_quo z _ (by omega)
  obtain ⟨v, hv⟩ : ∃ v, IntKind.u64.wrap (bits .xor .u64 z (z / 134217728) * 10723151780598845931) = v := ⟨_, rfl⟩
  obtain ⟨f1, f2⟩ : 0 ≤ v ∧ v < 18446744073709551616 := hv ▸ Sk.wr_bd _
  have e3 : IntKind.u64.wrap (v.tdiv 2147483648) = v / 2147483648 := IntWalk.u64_quo v _ (by omega)
  obtain ⟨u, hu⟩ : ∃ u, bits .xor .u64 v (v / 2147483648) = u := ⟨_, rfl⟩
  obtain ⟨g1, g2⟩ : 0 ≤ u ∧ u < 18446744073709551616 := hu ▸ Sk.bx_bd f1 f2 (by omega) (by omega)
  have e4 : u.tmod wd = u % wd := Int.tmod_eq_emod_of_nonneg g1
  have e5 : 0 ≤ u % wd ∧ u % wd < wd := ⟨Int.emod_nonneg _ (by omega), Int.emod_lt_of_pos _ (by omega)⟩
  have hres : (Sk.ixn x r wd : Int) = u % wd := by
    rw [← Sk.ixn_val x r wd h4]
    unfold Sk.ix Sk.mix Sk.m3 Sk.m2 Sk.m1 Sk.low
    rw [hy, hz, hv, hu]
  have e6 : IntKind.i64.wrap (u % wd) = u % wd := IntWalk.i64_in _ (by omega)
  have e7 : IntKind.u64.wrap wd = wd := IntWalk.u64_in _ (by omega)
  have e8 : IntKind.i64.wrap (r + 1) = r + 1 := IntWalk.i64_in _ (by omega)
  have e9 : IntKind.u64.wrap (r + 1) = r + 1 := IntWalk.u64_in _ (by omega)
  have H := Lib.hid hres
  clear hres
  go_enter Try.func23, Try.ntmps23
  go_wp2
  go_ret
  exact ⟨ret_i (by rw [H.out]), rfl⟩
end Go.Proofs.Ytdjcgfknlhijiaa

/- A text's number, by the code and by the reference. -/
import Derived.Test.YtdjcgfknlhijiaaSg
namespace Go.Proofs.Ytdjcgfknlhijiaa
set_option linter.unusedVariables false
set_option linter.unusedSimpArgs false
set_option linter.unnecessarySimpa false
open Go.RowKit Go.Proofs.YtdjcgfknlhijiaaW.PrintLast
namespace Sk
def hstep (n : Int) (b : UInt8) : Int := IntKind.u64.wrap (bits .xor .u64 n (b.toNat : Int) * 1099511628211)
def hashTo (s : ByteArray) (k : Nat) : Int := (s.data.toList.take k).foldl hstep 14695981039346656037
theorem hash_zero (s : ByteArray) : hashTo s 0 = 14695981039346656037 := rfl
theorem hash_succ {s : ByteArray} {k : Nat} {b : UInt8} (h : s.data.toList[k]? = some b) : hashTo s (k + 1) = hstep (hashTo s k) b := by
  have hk := (List.getElem?_eq_some_iff.1 h).1
  unfold hashTo
  rw [List.take_succ_eq_append_getElem hk, List.foldl_append, (List.getElem?_eq_some_iff.1 h).2]
  rfl
end Sk
set_option maxRecDepth 20000 in
set_option maxHeartbeats 4000000 in
theorem Hash_any (s : ByteArray) (w : World) (hs : s.size ≤ 140737488351232) :
    Calls Try.prog 20 #[.string s] w fun e w' => e = .returned (.int .u64 (Sk.hashTo s s.size)) ∧ w = w' := by
  obtain ⟨n, hn⟩ : ∃ n, s.size = n := ⟨_, rfl⟩
  go_enter Try.func20, Try.ntmps20
  go_wp2
  go_loopg [3, 7] n (fun k v3 v wr => ∃ j : Nat, v = .int .i64 (j : Int) ∧ j ≤ n ∧ k = n - j ∧ v3 = .int .u64 (Sk.hashTo s j) ∧ wr = w)
  case atStart => exact ⟨0, by rfl, by omega, by omega, rfl, rfl⟩
  case round =>
    obtain ⟨j, rfl, j1, hk, rfl, rfl⟩ := hrel
    have hw1 : IntKind.i64.wrap ((j : Int) + 1) = ((j + 1 : Nat) : Int) := by rw [IntWalk.i64_in _ (by omega)]; rfl
    rcases Nat.lt_or_ge j n with hj | hj
    · have hd : decide ((j : Int) < (n : Int)) = true := decide_eq_true (by omega)
      have hsz : s.data.toList.length = s.size := rfl
      have hjs : j < s.size := by omega
      have hb : s.data.toList[j]? = some s[j] := by rw [List.getElem?_eq_getElem (by omega)]; rfl
      have hst := Sk.hash_succ hb
      have hb0 : (0 : Int) ≤ (j : Int) := by omega
      have hb1 : (j : Int) < (s.size : Int) := by omega
      obtain ⟨H, hH⟩ : ∃ H, Sk.hashTo s j = H := ⟨_, rfl⟩
      rw [hH] at hst ⊢
      have hbw : IntKind.u64.wrap ((s[j].toNat : Nat) : Int) = (s[j].toNat : Int) := IntWalk.u64_in _ (by have := s[j].toNat_lt; omega)
      have hst' := Lib.hid hst
      clear hst
      go_wp2
      go_roundg (n - (j + 1))
      case measure => omega
      case rel => exact ⟨j + 1, by first | rfl | (rw [hw1]) | simp, by omega, rfl, by rw [hst'.out]; rfl, rfl⟩
    · obtain rfl : j = n := by omega
      have hd : decide ((j : Int) < (j : Int)) = false := by simp
      go_wp2_with (fail)
      go_ret
      exact ⟨by rw [hn]; rfl, rfl⟩
set_option maxRecDepth 20000 in
set_option maxHeartbeats 4000000 in
theorem RHash_any (s : ByteArray) (w : World) (hs : s.size ≤ 140737488351232) :
    Calls Try.prog 21 #[.string s] w fun e w' => e = .returned (.int .u64 (Sk.hashTo s s.size)) ∧ w = w' := by
  obtain ⟨n, hn⟩ : ∃ n, s.size = n := ⟨_, rfl⟩
  go_enter Try.func21, Try.ntmps21
  go_wp2
  go_loopg [3, 4] n (fun k v3 v wr => ∃ j : Nat, v = .int .i64 (j : Int) ∧ j ≤ n ∧ k = n - j ∧ v3 = .int .u64 (Sk.hashTo s j) ∧ wr = w)
  case atStart => exact ⟨0, by rfl, by omega, by omega, rfl, rfl⟩
  case round =>
    obtain ⟨j, rfl, j1, hk, rfl, rfl⟩ := hrel
    have hw1 : IntKind.i64.wrap ((j : Int) + 1) = ((j + 1 : Nat) : Int) := by rw [IntWalk.i64_in _ (by omega)]; rfl
    rcases Nat.lt_or_ge j n with hj | hj
    · have hd : decide ((j : Int) < (n : Int)) = true := decide_eq_true (by omega)
      have hsz : s.data.toList.length = s.size := rfl
      have hjs : j < s.size := by omega
      have hb : s.data.toList[j]? = some s[j] := by rw [List.getElem?_eq_getElem (by omega)]; rfl
      have hst := Sk.hash_succ hb
      have hb0 : (0 : Int) ≤ (j : Int) := by omega
      have hb1 : (j : Int) < (s.size : Int) := by omega
      obtain ⟨H, hH⟩ : ∃ H, Sk.hashTo s j = H := ⟨_, rfl⟩
      rw [hH] at hst ⊢
      have hbw : IntKind.u64.wrap ((s[j].toNat : Nat) : Int) = (s[j].toNat : Int) := IntWalk.u64_in _ (by have := s[j].toNat_lt; omega)
      have hst' := Lib.hid hst
      clear hst
      go_wp2
      go_roundg (n - (j + 1))
      case measure => omega
      case rel => exact ⟨j + 1, by first | rfl | (rw [hw1]) | simp, by omega, rfl, by rw [hst'.out]; rfl, rfl⟩
    · obtain rfl : j = n := by omega
      have hd : decide ((j : Int) < (j : Int)) = false := by simp
      go_wp2_with (fail)
      go_ret
      exact ⟨by rw [hn]; rfl, rfl⟩
theorem Hash_zero (w : World) : Calls Try.prog 20 #[.string ⟨#[]⟩] w fun e w' => e = .returned (.int .u64 14695981039346656037) ∧ w = w' :=
  Hash_any ⟨#[]⟩ w (by decide)
end Go.Proofs.Ytdjcgfknlhijiaa

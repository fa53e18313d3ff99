/- What the law on the truth computes. -/
import Derived.Test.YtdjcgfknlhijiaaSu
import Derived.Test.YtdjcgfknlhijiaaSt
namespace Go.Proofs.Ytdjcgfknlhijiaa
set_option linter.unusedVariables false
set_option linter.unusedSimpArgs false
set_option linter.unnecessarySimpa false
open Go.RowKit Go.Proofs.YtdjcgfknlhijiaaW.PrintLast
def u64s (K : List Int) : List Value := K.map fun k => .int .u64 k
theorem u64s_len (K : List Int) : (u64s K).length = K.length := by simp [u64s]
theorem cells64_len (K : List Int) : (cells64 K).length = K.length := by simp [cells64]
theorem el43 : Elem Try.prog 43 36 1 8 (.int .u64 0) := elem_mk (by kernel_rfl) (by kernel_rfl) rfl (by decide)
/-- The law's two slices: the keys, and how often each was added. -/
def KtP (v7 v8 : Value) (K T : List Int) (E : List Ent) : Prop :=
  (K = [] ∧ T = [] ∧ v7 = .slice none 0 0 ∧ v8 = .slice none 0 0 ∧ E = []) ∨
  (∃ N g1 g2 c1 c2, K.length = N ∧ T.length = N ∧ 0 < N ∧ v7 = .slice (some ⟨g1, 0, none⟩) N c1 ∧ v8 = .slice (some ⟨g2, 0, none⟩) N c2 ∧ E = [(g1, RowP 36 1 c1 (u64s K)), (g2, RowP 3 1 c2 (cells64 T))])
theorem Tr.addm {rows wd : Nat} {c ad key : Int} {B : Nat} {R : List Row} {K T K1 T1 : List Int} {i : Nat} {t : Int} (h : Tr rows wd c B R K T ad) (hK : K1.length = T1.length) (hf : K1.length ≤ B + 1) (hkb : ∀ k ∈ K1, 0 ≤ k ∧ k < 18446744073709551616) (hc : Sk.Cov B R K1 T1) (hi : K1[i]? = some key) (ht : T1[i]? = some t) :
    Tm wd c (B + 1) (Sk.added c ad key R) K1 (T1.set i (t + 1)) (ad + 1) (ad + 1 == c) := by
  have h0 := h.a0
  have h1 := h.a1
  have hcv := Sk.cov_hit h.shape hc hi ht
  have htb : ∀ t' ∈ T1.set i (t + 1), 0 ≤ t' ∧ t' ≤ ((B + 1 : Nat) : Int) := by
    intro t' ht'
    obtain ⟨n, hn⟩ := List.getElem?_of_mem ht'
    have hlt := (List.getElem?_eq_some_iff.1 hn).1
    rw [List.length_set] at hlt
    obtain ⟨k, hk⟩ : ∃ k, K1[n]? = some k := ⟨_, List.getElem?_eq_getElem (by omega)⟩
    obtain ⟨a1, a2, _⟩ := hcv n k t' hk hn
    exact ⟨a1, by omega⟩
  refine ⟨Sk.added_shape h.shape, fun p hp v hv => by have := Sk.added_bd h.bd (by omega) p hp v hv; omega, by simpa using hK, hf, hkb, by omega, by omega, htb, ?_, ?_⟩
  · unfold Sk.added
    by_cases e : ad + 1 < c
    · have e2 : (ad + 1 == c) = false := by simp; omega
      rw [if_pos e, e2]
      exact hcv
    · have e2 : (ad + 1 == c) = true := by simp; omega
      rw [if_neg e, e2]
      exact Sk.cov_half hcv
  · intro e
    simp at e
    omega
theorem Tr.agem {rows wd : Nat} {c ad : Int} {B : Nat} {R : List Row} {K T : List Int} (h : Tr rows wd c B R K T ad) : Tm wd c (B + 1) (Sk.halve R) K T ad true := by
  have h0 := h.a0
  have h1 := h.a1
  refine ⟨Sk.halve_shape h.shape, fun p hp v hv => by have := Sk.halve_bd h.bd p hp v hv; omega, h.eq, by have := h.few; omega, h.kb, h0, by omega, ?_, Sk.cov_more (Sk.cov_half h.cov), fun e => by cases e⟩
  intro t' ht'
  obtain ⟨n, hn⟩ := List.getElem?_of_mem ht'
  have hlt := (List.getElem?_eq_some_iff.1 hn).1
  have he := h.eq
  obtain ⟨k, hk⟩ : ∃ k, K[n]? = some k := ⟨_, List.getElem?_eq_getElem (by omega)⟩
  obtain ⟨a1, a2, _⟩ := h.cov n k t' hk hn
  exact ⟨a1, by omega⟩
theorem Tr.staym {rows wd : Nat} {c ad : Int} {B : Nat} {R : List Row} {K T : List Int} (h : Tr rows wd c B R K T ad) : Tm wd c (B + 1) R K T ad false := by
  have h0 := h.a0
  have h1 := h.a1
  refine ⟨h.shape, fun p hp v hv => by have := h.bd p hp v hv; omega, h.eq, by have := h.few; omega, h.kb, h0, by omega, ?_, Sk.cov_more h.cov, fun _ => h1⟩
  intro t' ht'
  obtain ⟨n, hn⟩ := List.getElem?_of_mem ht'
  have hlt := (List.getElem?_eq_some_iff.1 hn).1
  have he := h.eq
  obtain ⟨k, hk⟩ : ∃ k, K[n]? = some k := ⟨_, List.getElem?_eq_getElem (by omega)⟩
  obtain ⟨a1, a2, _⟩ := h.cov n k t' hk hn
  exact ⟨a1, by omega⟩
theorem Tm.on {rows wd : Nat} {c ad : Int} {B : Nat} {R : List Row} {K T : List Int} (h : Tm wd c B R K T ad false) : Tr rows wd c B R K T ad :=
  ⟨h.shape, h.bd, h.eq, h.few, h.kb, h.a0, h.a2 rfl, h.cov⟩
theorem Tm.half {rows wd : Nat} {c ad : Int} {B : Nat} {R : List Row} {K T : List Int} (h : Tm wd c B R K T ad true) (hc : 1 ≤ c) : Tr rows wd c B R K (T.map (· / 2)) 0 :=
  ⟨h.shape, h.bd, by simpa using h.eq, h.few, h.kb, by omega, by omega, h.cov⟩
end Go.Proofs.Ytdjcgfknlhijiaa

/- The list's calls by their contracts: out, put, move, New, Add. -/
import Derived.Test.YtkkgajlddlnghaaLf
namespace Go.Proofs.Ytkkgajlddlnghaa
set_option linter.unusedVariables false
set_option linter.unusedSimpArgs false
set_option linter.unnecessarySimpa false
open Go.RowKit Go.Proofs.YtkkgajlddlnghaaW.PrintLast
namespace Lr
theorem key_ne {T : Tab} {g mb : Nat} {F : Int → Value} {most : Int} {tt kk tt1 kk1 : List Th} {x : Th} {kp : Bool} (R : Rep T g mb F most tt kk) (O : Out x kp tt kk tt1 kk1) : ∀ y ∈ tt1 ++ kk1, y.k ≠ x.k := fun y hy e => by
  have hperm := O.perm
  obtain ⟨_, _, xn⟩ := nodup_of_perm R.nd hperm
  have h1 := R.fm y (hperm.mem_iff.2 (List.mem_cons_of_mem _ hy))
  have h2 := R.fm x (hperm.mem_iff.2 (List.mem_cons_self ..))
  rw [e, h2] at h1
  have : x.b = y.b := by
    unfold ptr Th.nd at h1
    injection h1 with h1; injection h1 with h1; injection h1
  exact xn (by rw [this]; exact ids_mem hy)
/-- A loose block is written: the list stays. -/
theorem Rep.loose {T : Tab} {g mb b o : Nat} {v : Value} {F : Int → Value} {most : Int} {tt kk : List Th} (R : Rep T g mb F most tt kk) (hg : b ≠ g) (hn : b ∉ ids (tt ++ kk)) : Rep (T.put b o v) g mb F most tt kk := by
  have ht : ∀ x ∈ tt, b ≠ x.b := fun x hx e => hn (by rw [e]; exact ids_mem (by simp [hx]))
  have hk : ∀ x ∈ kk, b ≠ x.b := fun x hx e => hn (by rw [e]; exact ids_mem (by simp [hx]))
  have seg : ∀ (l : List Th) (e : Nd), e.1 = g → (∀ x ∈ l, b ≠ x.b) → Seg T e l e → Seg (T.put b o v) e l e := fun l e he hl h => by
    refine seg_frame h (fun p hp => Tab.get_put_ne (.inl ?_)) (fun p hp => Tab.get_put_ne (.inl ?_))
    · rcases hp with rfl | ⟨x, hx, rfl⟩
      · rw [he]; exact hg
      · exact hl x hx
    · rcases hp with rfl | ⟨x, hx, rfl⟩
      · rw [he]; exact hg
      · exact hl x hx
  refine ⟨?_, ?_, ?_, ?_, seg tt _ rfl ht R.rt, seg kk _ rfl hk R.rk, R.nd, ?_, ?_, R.fm, R.fn⟩
  · rw [Tab.get_put_ne (.inl hg)]; exact R.room
  · rw [Tab.get_put_ne (.inl hg)]; exact R.at_
  · rw [Tab.get_put_ne (.inl hg)]; exact R.all_
  · rw [Tab.get_put_ne (.inl hg)]; exact R.held
  · intro x hx
    rw [Tab.get_put_ne (.inl (ht x hx)), Tab.get_put_ne (.inl (ht x hx)), Tab.get_put_ne (.inl (ht x hx))]
    exact R.ct x hx
  · intro x hx
    rw [Tab.get_put_ne (.inl (hk x hx)), Tab.get_put_ne (.inl (hk x hx)), Tab.get_put_ne (.inl (hk x hx))]
    exact R.ck x hx
theorem Rep.cons {T : Tab} {g mb : Nat} {F : Int → Value} {most : Int} {tt kk : List Th} (R : Rep T g mb F most tt kk) (y : Blk) (hg : y.id ≠ g) (hn : y.id ∉ ids (tt ++ kk)) : Rep (y :: T) g mb F most tt kk := by
  have ht : ∀ x ∈ tt, y.id ≠ x.b := fun x hx e => hn (by rw [e]; exact ids_mem (by simp [hx]))
  have hk : ∀ x ∈ kk, y.id ≠ x.b := fun x hx e => hn (by rw [e]; exact ids_mem (by simp [hx]))
  have G : ∀ b o, y.id ≠ b → Tab.get (y :: T) b o = T.get b o := fun b o h => by rw [Tab.get_cons, if_neg h]
  have seg : ∀ (l : List Th) (e : Nd), e.1 = g → (∀ x ∈ l, y.id ≠ x.b) → Seg T e l e → Seg (y :: T) e l e := fun l e he hl h => by
    refine seg_frame h (fun p hp => G _ _ ?_) (fun p hp => G _ _ ?_)
    · rcases hp with rfl | ⟨x, hx, rfl⟩
      · rw [he]; exact hg
      · exact hl x hx
    · rcases hp with rfl | ⟨x, hx, rfl⟩
      · rw [he]; exact hg
      · exact hl x hx
  refine ⟨?_, ?_, ?_, ?_, seg tt _ rfl ht R.rt, seg kk _ rfl hk R.rk, R.nd, ?_, ?_, R.fm, R.fn⟩
  · rw [G _ _ hg]; exact R.room
  · rw [G _ _ hg]; exact R.at_
  · rw [G _ _ hg]; exact R.all_
  · rw [G _ _ hg]; exact R.held
  · intro x hx
    rw [G _ _ (ht x hx), G _ _ (ht x hx), G _ _ (ht x hx)]
    exact R.ct x hx
  · intro x hx
    rw [G _ _ (hk x hx), G _ _ (hk x hx), G _ _ (hk x hx)]
    exact R.ck x hx
theorem lookF {T : Tab} {g mb : Nat} {F : Int → Value} {most : Int} {tt kk : List Th} (R : Rep T g mb F most tt kk) (k : Int) : (∃ x ∈ tt ++ kk, x.k = k ∧ F k = ptr x.nd) ∨ ((∀ x ∈ tt ++ kk, x.k ≠ k) ∧ F k = .pointer none) := by
  by_cases h : ∃ x ∈ tt ++ kk, x.k = k
  · obtain ⟨x, hx, rfl⟩ := h
    exact .inl ⟨x, hx, rfl, R.fm x hx⟩
  · have h' : ∀ x ∈ tt ++ kk, x.k ≠ k := fun x hx e => h ⟨x, hx, e⟩
    exact .inr ⟨h', R.fn k h'⟩
/-- What 'take' takes, as things. -/
theorem take_out {s s1 : S} {k : Int} {v : KV} {tt kk : List Th} (ht : kvs tt = s.trial) (hk : kvs kk = s.kept) (h : take s k = some (v, s1)) : ∃ x kp tt1 kk1, x.kv = v ∧ Out x kp tt kk tt1 kk1 ∧ kvs tt1 = s1.trial ∧ kvs kk1 = s1.kept := by
  have split : ∀ (l : List Th) (A B : List KV), kvs l = A ++ v :: B → ∃ A' x B', l = A' ++ x :: B' ∧ x.kv = v ∧ kvs A' = A ∧ kvs B' = B := by
    intro l A B h
    obtain ⟨A', r, rfl, hA, hr⟩ := List.map_eq_append_iff.1 h
    obtain ⟨x, B', rfl, hx, hB⟩ := List.map_eq_cons_iff.1 hr
    exact ⟨A', x, B', rfl, hx, hA, hB⟩
  obtain ⟨_, _, A, B, (⟨h1, h2, h3⟩ | ⟨h1, h2, h3, _⟩)⟩ := take_some h
  · obtain ⟨A', x, B', rfl, hx, hA, hB⟩ := split tt A B (ht.trans h1)
    exact ⟨x, false, _, _, hx, .trial A' B' kk, by rw [kvs_app, hA, hB, h2], by rw [hk, h3]⟩
  · obtain ⟨A', x, B', rfl, hx, hA, hB⟩ := split kk A B (hk.trans h1)
    exact ⟨x, true, _, _, hx, .kept A' B' tt, by rw [ht, h3], by rw [kvs_app, hA, hB, h2]⟩
theorem Bd.of_ok {s : S} {c : Nat} {tt kk : List Th} (h : Ok s c) (hc : c ≤ 1000000) (ht : kvs tt = s.trial) (hk : kvs kk = s.kept) : Bd (tt ++ kk) := by
  have e : kvs (tt ++ kk) = all s := by rw [kvs_app, ht, hk]; rfl
  refine ⟨fun x hx => ?_, ?_⟩
  · have hm : x.kv ∈ all s := by rw [← e]; exact List.mem_map.2 ⟨x, hx, rfl⟩
    exact ⟨(h.by_ _ hm).1, (h.by_ _ hm).2, h.ks _ hm⟩
  · have := h.len
    rw [← e] at this
    simp [kvs] at this ⊢; omega
/-- What a list owns. -/
def Lw (w0 w : World) (L : List Ent) (g n : Nat) (s : S) : Prop :=
  ∃ T mb F tt kk, Own w0 w (T.ents ++ (mb, Mp n F) :: L) ∧ Rep T g mb F s.most tt kk ∧ kvs tt = s.trial ∧ kvs kk = s.kept
end Lr
open Lr
theorem out_any {w0 w : World} {L : List Ent} {T : Tab} {g mb n : Nat} {F : Int → Value} {most : Int} {tt kk tt1 kk1 : List Th} {x : Th} {kp : Bool} (HO : Own w0 w (T.ents ++ (mb, Mp n F) :: L)) (R : Rep T g mb F most tt kk) (O : Out x kp tt kk tt1 kk1) (B : Bd (tt ++ kk)) :
    Calls Try.prog 36 #[.pointer (some ⟨g, 0, none⟩), .pointer (some ⟨x.b, 0, none⟩)] w fun e w' => e = .returned (.tuple #[]) ∧ ∃ T' F', Own w0 w' (T'.ents ++ (mb, Mp n F') :: L) ∧ Rep T' g mb F' most tt1 kk1 ∧ Loose T' x kp ∧ x.b ≠ g ∧ x.b ∉ ids (tt1 ++ kk1) := by
  obtain ⟨p, q, h1, h2, ⟨u, h3⟩, ⟨u', h4⟩, h5, h6, h7, h8, h9, c0, c1, c2, R', L', xg, xn⟩ := rep_out R O
  have hx := B.by_ x (O.perm.mem_iff.2 (List.mem_cons_self ..))
  have b1 := B.right.sum
  have b2 := B.sum
  have b3 : sum (kvs (tt ++ kk)) = sum (kvs tt) + sum (kvs kk) := by rw [kvs_app, sum_append]
  have hw := out_walk kp HO h1 h2 h3 h4 h5 h6 h7 ((mend_safe h8 h9 (.inl (by decide))).trans c2) ((mend_safe h8 h9 (.inl (by decide))).trans c0) ((mend_safe h8 h9 (.inl (by decide))).trans c1) ((mend_safe h8 h9 (.inr (by decide))).trans R.all_) ((mend_safe h8 h9 (.inr (by decide))).trans R.held) ((mend_safe h8 h9 (.inr (by decide))).trans R.at_) hx.2.2 ⟨b1.1, b1.2⟩ (by omega) (by omega)
  exact hw.mono fun e w' ⟨h, HO1⟩ => ⟨h, _, _, HO1, R', L', xg, xn⟩
theorem put_any {w0 w : World} {L : List Ent} {T : Tab} {g mb n : Nat} {F : Int → Value} {most : Int} {tt kk : List Th} {x : Th} {kp : Bool} (HO : Own w0 w (T.ents ++ (mb, Mp n F) :: L)) (R : Rep T g mb F most tt kk) (Lx : Loose T x kp) (xg : x.b ≠ g) (xn : x.b ∉ ids (tt ++ kk)) (hx : ∀ y ∈ tt ++ kk, y.k ≠ x.k) (B : Bd (x :: (tt ++ kk))) (hn : n < maxLen) :
    Calls Try.prog 35 #[.pointer (some ⟨g, 0, none⟩), .pointer (some ⟨x.b, 0, none⟩)] w fun e w' => e = .returned (.tuple #[]) ∧ ∃ T' F', Own w0 w' (T'.ents ++ (mb, Mp (n + 1) F') :: L) ∧ Rep T' g mb F' most (if kp then tt else tt ++ [x]) (if kp then kk ++ [x] else kk) := by
  obtain ⟨p, h1, ⟨u, h2⟩, h3, h4, h5, R'⟩ := rep_put R Lx xg xn hx
  obtain ⟨c0, c1, c2, ⟨u3, c3⟩, ⟨u4, c4⟩⟩ := Lx
  have hb := B.by_ x (List.mem_cons_self ..)
  have B2 : Bd (tt ++ kk) := ⟨fun y hy => B.by_ y (List.mem_cons_of_mem _ hy), by have := B.len; simp at this ⊢; omega⟩
  have b1 := B2.right.sum
  have b2 := B2.sum
  have b3 : sum (kvs (tt ++ kk)) = sum (kvs tt) + sum (kvs kk) := by rw [kvs_app, sum_append]
  have he : (g, if kp then 6 else 1).2 ≤ 6 := by cases kp <;> simp
  have hw := put_walk kp HO rfl c2 c3 c4 h1 h2 xg.symm h3 h4 ((lay_safe h5 he (.inl (by decide))).trans c0) ((lay_safe h5 he (.inl (by decide))).trans c1) ((lay_safe h5 he (.inr (by decide))).trans R.all_) ((lay_safe h5 he (.inr (by decide))).trans R.held) ((lay_safe h5 he (.inr (by decide))).trans R.at_) hb.2.2 hn ⟨b1.1, b1.2⟩ (by omega) (by omega)
  exact hw.mono fun e w' ⟨h, HO1⟩ => ⟨h, _, _, HO1, R'⟩
set_option maxRecDepth 20000 in
set_option maxHeartbeats 4000000 in
theorem move_any {w0 w : World} {L : List Ent} {T : Tab} {g mb n : Nat} {F : Int → Value} {most : Int} {tt kk tt1 kk1 : List Th} {x : Th} {kp : Bool} (kp' : Bool) (HO : Own w0 w (T.ents ++ (mb, Mp n F) :: L)) (R : Rep T g mb F most tt kk) (O : Out x kp tt kk tt1 kk1) (B : Bd (tt ++ kk)) (hn : n < maxLen) :
    Calls Try.prog 33 #[.pointer (some ⟨g, 0, none⟩), .pointer (some ⟨x.b, 0, none⟩), .bool kp'] w fun e w' => e = .returned (.tuple #[]) ∧ ∃ T' F', Own w0 w' (T'.ents ++ (mb, Mp (n + 1) F') :: L) ∧ Rep T' g mb F' most (if kp' then tt1 else tt1 ++ [x]) (if kp' then kk1 ++ [x] else kk1) := by
  have hkey := Lib.hid (key_ne R O)
  have B2 := Lib.hid (B.perm O.perm)
  have hn' := Lib.hid hn
  have OA := Lib.hid (out_any HO R O B)
  clear hn B R O
  obtain ⟨t2, ht2⟩ : ∃ t2, (if kp' = true then tt1 else tt1 ++ [x]) = t2 := ⟨_, rfl⟩
  obtain ⟨k2, hk2⟩ : ∃ k2, (if kp' = true then kk1 ++ [x] else kk1) = k2 := ⟨_, rfl⟩
  rw [ht2, hk2]
  have HT2 := Lib.hid ht2
  have HK2 := Lib.hid hk2
  clear ht2 hk2
  go_enter Try.func33, Try.ntmps33
  go_wp2_with (fail)
  go_at_call 36; refine OA.out.mono ?_; rintro e w2 ⟨rfl, T1, F1, HO1, R1, L1, xg, xn⟩
  clear HO
  have HO := HO1
  clear HO1
  have R2 := Lib.hid (R1.loose (o := 2) (v := .bool kp') xg xn)
  have L2 : Hid (Loose (T1.put x.b 2 (.bool kp')) x kp') := Lib.hid ⟨by rw [Tab.get_put_ne (.inr (by decide))]; exact L1.c0, by rw [Tab.get_put_ne (.inr (by decide))]; exact L1.c1, Tab.get_put_same L1.c2, by rw [Tab.get_put_ne (.inr (by decide))]; exact L1.c3, by rw [Tab.get_put_ne (.inr (by decide))]; exact L1.c4⟩
  have c2 := L1.c2
  have XN := Lib.hid xn
  have XG := Lib.hid xg
  clear R1 L1 xn xg
  go_wp2_with (refine li_storeBoolT 4 rfl rfl rfl rfl HO rfl c2 (by kernel_rfl) ?_; clear HO; intro ws HO)
  go_at_call 35; refine (put_any HO R2.out L2.out XG.out XN.out hkey.out B2.out hn'.out).mono ?_; rintro e w3 ⟨rfl, T3, F3, HO3, R3⟩
  rw [HT2.out, HK2.out] at R3
  go_wp2_with (fail)
  go_end0
  exact ⟨rfl, T3, F3, HO3, R3⟩
end Go.Proofs.Ytkkgajlddlnghaa

/- Order: all keys, who goes first ahead. -/
import Derived.Test.YtkkgajlddlnghaaLj
namespace Go.Proofs.Ytkkgajlddlnghaa
set_option linter.unusedVariables false
set_option linter.unusedSimpArgs false
set_option linter.unnecessarySimpa false
open Go.RowKit Go.Proofs.YtkkgajlddlnghaaW.PrintLast Lr
theorem el37 : Elem Try.prog 37 2 1 8 (.int .i64 0) := elem_mk (by kernel_rfl) (by kernel_rfl) rfl (by decide)
namespace Lr
def iv (k : Int) : Value := .int .i64 k
/-- A slice of whole numbers of the call's own. -/
inductive IsP (v : Value) : List Int → List Ent → Prop where
  | nil : v = .slice none 0 0 → IsP v [] []
  | row (l : List Int) (g c : Nat) : v = .slice (some ⟨g, 0, none⟩) l.length c → IsP v l [(g, RowP 2 1 c (l.map iv))]
def headOf (e : Nd) : List Th → Nd
  | [] => e
  | y :: _ => y.nd
theorem seg_next {T : Tab} {a e : Nd} : ∀ {l : List Th}, Seg T a l e → T.get a.1 (a.2 + 4) = some (ptr (headOf e l))
  | [], h => h.1
  | _ :: _, h => h.1
def keys (l : List Th) : List Int := l.map (·.k)
theorem keys_app (l m : List Th) : keys (l ++ m) = keys l ++ keys m := by unfold keys; simp
theorem order_keys {s : S} {tt kk : List Th} (ht : kvs tt = s.trial) (hk : kvs kk = s.kept) : order s = keys tt ++ keys kk := by
  unfold order all
  rw [← ht, ← hk, List.map_append]
  unfold kvs keys
  rw [List.map_map, List.map_map]
  rfl
end Lr
theorem neq_other {w0 w : World} {L : List Ent} {T : Tab} {b o g o' i j : Nat} {u u' : Value} (h : Own w0 w (T.ents ++ L)) (hb : T.get b i = some u) (hg : T.get g j = some u') (hne : b ≠ g) :
    (binOp .neq 54 (.pointer (some ⟨b, o, none⟩)) (.pointer (some ⟨g, o', none⟩))).run Try.prog w = .ok (.bool true) w := by
  have h := eq_other (o := o) (o' := o') h hb hg hne
  simp only [binOp, Sem.run_bind] at h ⊢
  cases hr : (Op.equal 54 (.pointer (some ⟨b, o, none⟩)) (.pointer (some ⟨g, o', none⟩))).run Try.prog w with
  | ok x w1 => rw [hr] at h; simp at h ⊢; simp [h]
  | _ => rw [hr] at h; simp at h
theorem neq_same (w : World) (a : Addr) : (binOp .neq 54 (.pointer (some a)) (.pointer (some a))).run Try.prog w = .ok (.bool false) w := by
  have h := eq_same w a
  simp only [binOp, Sem.run_bind] at h ⊢
  cases hr : (Op.equal 54 (.pointer (some a)) (.pointer (some a))).run Try.prog w with
  | ok x w1 => rw [hr] at h; simp at h ⊢; simp [h]
  | _ => rw [hr] at h; simp at h
theorem own_app {w0 w : World} {T : Tab} {A B x y : Ent} {L : List Ent} (h : Own w0 w (y :: (T.ents ++ A :: B :: (x :: L)).eraseIdx (T.ents.length + 2))) : Own w0 w (T.ents ++ A :: B :: (y :: L)) := by
  have e : (T.ents ++ A :: B :: (x :: L)).eraseIdx (T.ents.length + 2) = T.ents ++ A :: B :: L := by
    rw [List.eraseIdx_append_of_length_le (by omega)]
    simp
  rw [e] at h
  refine h.perm ?_
  have h1 : (y :: (T.ents ++ A :: B :: L)).Perm (T.ents ++ (y :: A :: B :: L)) := List.perm_middle.symm
  refine h1.trans (List.Perm.append_left _ ?_)
  exact (List.Perm.swap A y (B :: L)).trans ((List.Perm.swap B y L).cons A)
theorem own_new {w0 w : World} {T : Tab} {A B y : Ent} {L : List Ent} (h : Own w0 w (y :: (T.ents ++ A :: B :: L))) : Own w0 w (T.ents ++ A :: B :: (y :: L)) := by
  refine h.perm ?_
  have h1 : (y :: (T.ents ++ A :: B :: L)).Perm (T.ents ++ (y :: A :: B :: L)) := List.perm_middle.symm
  refine h1.trans (List.Perm.append_left _ ?_)
  exact (List.Perm.swap A y (B :: L)).trans ((List.Perm.swap B y L).cons A)
set_option maxRecDepth 20000 in
set_option maxHeartbeats 8000000 in
theorem LOrder_any {w0 w : World} {L : List Ent} {g n c : Nat} {s : S} (HL : Lw w0 w L g n s) (K : Ok s c) (hc : c ≤ 100000) :
    Calls Try.prog 15 #[.pointer (some ⟨g, 0, none⟩)] w fun e w' => ∃ v E, e = .returned v ∧ IsP v (order s) E ∧ Lw w0 w' (E ++ L) g n s := by
  obtain ⟨T, mb, F, tt, kk, HO, R, ht, hk⟩ := HL
  have HT := Lib.hid ht
  have HK := Lib.hid hk
  have HR := Lib.hid R
  have hlen := K.len
  rw [cnt ht hk] at hlen
  have HLen := Lib.hid (show (tt ++ kk).length ≤ 100000 by omega)
  rw [order_keys ht hk]
  clear R ht hk K hlen
  go_enter Try.func15, Try.ntmps15
  go_upto_region 2 with (fail)
  refine start_ (n := 9) (S := fun w' => True) (ds := []) #[false, false, false, false, false, false, false, false, false] (by kernel_rfl) rfl rfl trivial (fun hHeld => ?_)
  replace HO := HO.drew
  refine pure_ (i := 0) (N := some 7) (v := ?_) (a' := ?_) #[true, false, false, false, false, false, false, false, false] rfl rfl (by kernel_rfl) (fun _ _ _ h => h) (Or.inl ⟨by rfl, ?_⟩) ?_ ?_
  rotate_left
  · intro w'
    go_simp
    with_reducible rfl
  rotate_left
  · simp only [Act.put, List.setIfInBounds_toArray, List.set_cons_zero, List.set_cons_succ, i64_w, i32_w]
    rfl
  refine pure_ (i := 1) (N := some 8) (v := ?_) (a' := ?_) #[true, true, false, false, false, false, false, false, false] rfl rfl (by kernel_rfl) (fun _ _ _ h => h) (Or.inl ⟨by rfl, ?_⟩) ?_ ?_
  rotate_left
  · intro w'
    go_simp
    with_reducible rfl
  rotate_left
  · simp only [Act.put, List.setIfInBounds_toArray, List.set_cons_zero, List.set_cons_succ, i64_w, i32_w]
    rfl
  refine pure_ (i := 2) (N := some 9) (v := ?_) (a' := ?_) #[true, true, true, false, false, false, false, false, false] rfl rfl (by kernel_rfl) (fun _ _ _ h => h) (Or.inl ⟨by rfl, ?_⟩) ?_ ?_
  rotate_left
  · intro w'
    go_simp
    with_reducible rfl
  rotate_left
  · simp only [Act.put, List.setIfInBounds_toArray, List.set_cons_zero, List.set_cons_succ, i64_w, i32_w]
    rfl
  refine pure_ (i := 3) (N := some 10) (v := ?_) (a' := ?_) #[true, true, true, true, false, false, false, false, false] rfl rfl (by kernel_rfl) (fun _ _ _ h => h) (Or.inl ⟨by rfl, ?_⟩) ?_ ?_
  rotate_left
  · intro w'
    go_simp
    with_reducible rfl
  rotate_left
  · simp only [Act.put, List.setIfInBounds_toArray, List.set_cons_zero, List.set_cons_succ, i64_w, i32_w]
    rfl
  refine pure_ (i := 4) (N := some 11) (v := ?_) (a' := ?_) #[true, true, true, true, true, false, false, false, false] rfl rfl (by kernel_rfl) (fun _ _ _ h => h) (Or.inl ⟨by rfl, ?_⟩) ?_ ?_
  rotate_left
  · intro w'
    go_simp
    with_reducible rfl
  rotate_left
  · simp only [Act.put, List.setIfInBounds_toArray, List.set_cons_zero, List.set_cons_succ, i64_w, i32_w]
    rfl
  refine pure_ (i := 5) (N := some 12) (v := ?_) (a' := ?_) #[true, true, true, true, true, true, false, false, false] rfl rfl (by kernel_rfl) (fun _ _ _ h => h) (Or.inl ⟨by rfl, ?_⟩) ?_ ?_
  rotate_left
  · intro w'
    go_simp
    with_reducible rfl
  rotate_left
  · simp only [Act.put, List.setIfInBounds_toArray, List.set_cons_zero, List.set_cons_succ, i64_w, i32_w]
    rfl
  refine pure_ (i := 8) (N := some 15) (v := ?_) (a' := ?_) #[true, true, true, true, true, true, false, false, true] rfl rfl (by kernel_rfl) (fun _ _ _ h => h) (Or.inl ⟨by rfl, ?_⟩) ?_ ?_
  rotate_left
  · intro w'
    go_simp
    with_reducible rfl
  rotate_left
  · simp only [Act.put, List.setIfInBounds_toArray, List.set_cons_zero, List.set_cons_succ, i64_w, i32_w]
    rfl
  refine one_ (i := 6) (N := some 13) #[true, true, true, true, true, true, true, false, true] rfl rfl (by kernel_rfl) (by decide) (fun K hK => ?_)
  refine st_bslice 62 1 rfl rfl (by go_simp; rfl) rfl (by decide) HO ?_
  clear HO
  intro gn wn HO
  refine hK.out _ _ trivial (fun hHeld => ?_)
  clear hK K
  refine norm_ (a' := ?_) ?_ ?_
  rotate_left
  · show Act.put _ (some 13) _ = _
    simp only [Act.put, List.setIfInBounds_toArray, List.set_cons_zero, List.set_cons_succ, i64_w, i32_w]
    rfl
  refine pure_ (i := 7) (N := some 14) (v := ?_) (a' := ?_) #[true, true, true, true, true, true, true, true, true] rfl rfl (by kernel_rfl) (fun _ _ _ h => h) (Or.inl ⟨by rfl, ?_⟩) ?_ ?_
  rotate_left
  · intro w'
    go_simp
    with_reducible rfl
  rotate_left
  · simp only [Act.put, List.setIfInBounds_toArray, List.set_cons_zero, List.set_cons_succ, i64_w, i32_w]
    rfl
  refine done_ (by kernel_rfl) ?_
  have HO1 : Own w0 wn (T.ents ++ (gn, RowP 61 1 2 [.pointer (some ⟨g, 1, none⟩), .pointer (some ⟨g, 6, none⟩)]) :: (mb, Mp n F) :: ([] ++ L)) := HO.perm List.perm_middle.symm
  clear HO
  go_wp2_with (fail)
  go_loopg [3, 15] 2 (fun q vo vi wr => ∃ (i : Nat) (E : List Ent) (ol : List Int), vi = .int .i64 (i : Int) ∧ i ≤ 2 ∧ q = 2 - i ∧ IsP vo ol E ∧ Hid (ol = if i = 0 then [] else if i = 1 then keys tt else keys tt ++ keys kk) ∧ Own w0 wr (T.ents ++ (gn, RowP 61 1 2 [.pointer (some ⟨g, 1, none⟩), .pointer (some ⟨g, 6, none⟩)]) :: (mb, Mp n F) :: (E ++ L)))
  case atStart => exact ⟨0, [], [], by rfl, by omega, rfl, .nil rfl, Lib.hid rfl, HO1⟩
  case round =>
    clear HO1
    obtain ⟨i, E, ol, rfl, i2, hq, hP, hol, HO⟩ := hrel
    rcases Nat.lt_or_ge i 2 with hi | hi
    · obtain ⟨e, l, he, hget, hseg, hcells, hlb, hll, hnext⟩ : ∃ (e : Nd) (l : List Th), e.1 = g ∧ ([Value.pointer (some ⟨g, 1, none⟩), .pointer (some ⟨g, 6, none⟩)] : List Value)[i]? = some (.pointer (some ⟨g, e.2, none⟩)) ∧ Seg T e l e ∧ (∀ x ∈ l, T.get x.b 0 = some (.int .i64 x.k)) ∧ (∀ x ∈ l, x.b ≠ g) ∧ ol.length + l.length ≤ 100000 ∧ (ol ++ keys l = if i + 1 = 0 then [] else if i + 1 = 1 then keys tt else keys tt ++ keys kk) := by
        have h1 := hol.out
        have h2 := HLen.out
        have hp := nd_parts HR.out.nd
        simp only [List.length_append] at h2
        match i, hi with
        | 0, _ => exact ⟨(g, 1), tt, rfl, rfl, HR.out.rt, fun x hx => (HR.out.ct x hx).1, hp.1, by rw [h1]; simp; omega, by rw [h1]; simp⟩
        | 1, _ => exact ⟨(g, 6), kk, rfl, rfl, HR.out.rk, fun x hx => (HR.out.ck x hx).1, hp.2.1, by rw [h1]; simp [keys]; omega, by rw [h1]; simp⟩
      obtain ⟨eg, eo⟩ := e
      simp only at he hget
      subst he
      have hd : decide ((i : Int) < 2) = true := decide_eq_true (by omega)
      have hb0 : (0 : Int) ≤ (i : Int) := by omega
      have hb1 : (i : Int) < 2 := by omega
      have hwi : IntKind.i64.wrap ((i : Int) + 1) = ((i + 1 : Nat) : Int) := by rw [IntWalk.i64_in _ (by omega)]; rfl
      have n4 := seg_next hseg
      obtain ⟨⟨pb, po⟩, hp0⟩ : ∃ p0, headOf (eg, eo) l = p0 := ⟨_, rfl⟩
      rw [hp0] at n4
      have HP0 := Lib.hid hp0
      simp only [ptr] at n4
      clear hp0
      have HSEG := Lib.hid hseg
      have HC := Lib.hid hcells
      have HLB := Lib.hid hlb
      have HLL := Lib.hid hll
      have HNX := Lib.hid hnext
      have HG := Lib.hid hget
      have HQ := Lib.hid hq
      clear hseg hcells hlb hll hnext hget hol hq
      go_wp2_with (first | (refine li_loadRow _ 61 rfl rfl (off := i) rfl HO (tab_mid _ _ _) HG.out (by kernel_rfl) ?_) | (refine li_loadT 54 rfl rfl rfl HO n4 (by kernel_rfl) ?_))
      go_loopg [3, 6] l.length (fun q vo vx wr => ∃ (A B : List Th) (E : List Ent), Hid (l = A ++ B) ∧ q = B.length ∧ vx = .pointer (some ⟨(headOf (eg, eo) B).1, (headOf (eg, eo) B).2, none⟩) ∧ IsP vo (ol ++ keys A) E ∧ Own w0 wr (T.ents ++ (gn, RowP 61 1 2 [.pointer (some ⟨eg, 1, none⟩), .pointer (some ⟨eg, 6, none⟩)]) :: (mb, Mp n F) :: (E ++ L)))
      case atStart => exact ⟨[], l, E, Lib.hid rfl, rfl, by rw [HP0.out], by simpa [keys] using hP, HO⟩
      case round =>
        clear HO hP n4 E
        obtain ⟨A, B, E, hl, hk, rfl, hP, HO⟩ := hrel
        have HKQ := Lib.hid hk
        cases B with
        | nil =>
          have hq0 := neq_same wr ⟨eg, eo, none⟩
          simp only [headOf]
          go_wp2_with (fail)
          go_roundg (2 - (i + 1))
          case measure => have := HQ.out; omega
          case rel =>
            refine ⟨i + 1, E, ol ++ keys l, rfl, by omega, rfl, ?_, HNX.out, HO⟩
            have := hl.out
            rw [this, List.append_nil]; exact hP
        | cons y B =>
          have hym : y ∈ l := by rw [hl.out]; simp
          have hk0 := HC.out y hym
          have hs2 : Seg T y.nd B (eg, eo) := by
            have h := HSEG.out
            rw [hl.out] at h
            exact (seg_append.1 h).2
          have n4 : T.get y.b 4 = some (.pointer (some ⟨(headOf (eg, eo) B).1, (headOf (eg, eo) B).2, none⟩)) := by
            have := seg_next hs2
            simpa [Th.nd, ptr] using this
          have hq0 := neq_other (o := 0) (o' := eo) HO hk0 HR.out.room (HLB.out y hym)
          have hq1 : ∀ (w' : World), Own w0 w' (T.ents ++ (gn, RowP 61 1 2 [.pointer (some ⟨eg, 1, none⟩), .pointer (some ⟨eg, 6, none⟩)]) :: (mb, Mp n F) :: (E ++ L)) → True := fun _ _ => trivial
          have hA : A.length < l.length := by rw [hl.out]; simp
          have HA := Lib.hid hA
          have HL2 := Lib.hid (show l = (A ++ [y]) ++ B by rw [hl.out]; simp)
          have hmx : maxLen = 9223372036854775807 := rfl
          have hkl : (keys A).length = A.length := by simp [keys]
          have HKL := Lib.hid hkl
          have HX := Lib.hid (show (ol ++ keys A).length + 1 ≤ maxLen by have h1 := HLL.out; have h2 := HA.out; simp only [List.length_append, hkl]; omega)
          have HY := Lib.hid (show ((ol ++ keys A).length + 1) * 8 ≤ 140737488355328 by have h1 := HLL.out; have h2 := HA.out; simp only [List.length_append, hkl]; omega)
          simp only [headOf, Th.nd]
          clear hq1 hym hs2 hA hmx hkl hl hk HC
          obtain ⟨xs, hxs⟩ : ∃ xs, ol ++ keys A = xs := ⟨_, rfl⟩
          rw [hxs] at hP HX HY
          have HXS := Lib.hid hxs
          clear hxs
          cases hP with
          | nil hv =>
            subst hv
            simp only [List.nil_append] at HO
            go_wp2_with (first | (refine li_bsliceInt 37 2 el37 rfl rfl rfl HO ?_; clear HO; intro gs wb HO) | (refine li_append_nil1 el37 rfl rfl rfl HO rfl rfl rfl (by decide) (by decide) (by decide) ?_; clear HO; intro gm cm wm hcm HO1; have HO := own_new HO1; clear HO1) | (refine li_loadT 2 rfl rfl rfl HO hk0 (by kernel_rfl) ?_) | (refine li_loadT 54 rfl rfl rfl HO n4 (by kernel_rfl) ?_))
            go_roundg B.length
            case measure => have := HKQ.out; simp only [List.length_cons] at this; omega
            case rel =>
              refine ⟨A ++ [y], B, [_], HL2, rfl, rfl, ?_, HO⟩
              rw [keys_app, ← List.append_assoc, HXS.out]
              exact .row [y.k] gm cm rfl
          | row _ gr cr hv =>
            subst hv
            simp only [List.cons_append, List.nil_append] at HO
            have HXL := Lib.hid (show (xs.map iv).length = xs.length * 1 by simp)
            go_wp2_with (first | (refine li_bsliceInt 37 2 el37 rfl rfl rfl HO ?_; clear HO; intro gs wb HO) | (refine li_append_row1 (T.ents.length + 2) el37 rfl rfl rfl HO (by simp) HXL.out rfl rfl rfl (by decide) HX.out HY.out ?_; clear HO; intro gm cm wm hcm HO1; have HO := own_app HO1; clear HO1) | (refine li_loadT 2 rfl rfl rfl HO hk0 (by kernel_rfl) ?_) | (refine li_loadT 54 rfl rfl rfl HO n4 (by kernel_rfl) ?_))
            go_roundg B.length
            case measure => have := HKQ.out; simp only [List.length_cons] at this; omega
            case rel =>
              refine ⟨A ++ [y], B, [_], HL2, rfl, rfl, ?_, HO⟩
              rw [keys_app, ← List.append_assoc, HXS.out]
              have e : xs.map iv ++ [Value.int .i64 y.k] = (xs ++ [y.k]).map iv := by simp [iv]
              rw [e]
              exact .row (xs ++ [y.k]) gm cm (by simp)
    · obtain rfl : i = 2 := by omega
      have hol' : ol = keys tt ++ keys kk := by have := hol.out; simpa using this
      subst hol'
      have HO2 := HO.perm (show (T.ents ++ (gn, RowP 61 1 2 [.pointer (some ⟨g, 1, none⟩), .pointer (some ⟨g, 6, none⟩)]) :: (mb, Mp n F) :: (E ++ L)).Perm ((gn, RowP 61 1 2 [.pointer (some ⟨g, 1, none⟩), .pointer (some ⟨g, 6, none⟩)]) :: (T.ents ++ (mb, Mp n F) :: (E ++ L))) from List.perm_middle)
      have HO3 := HO2.tail
      clear HO2 HO
      go_wp2_with (fail)
      go_ret
      exact ⟨_, E, rfl, hP, T, mb, F, tt, kk, HO3, HR.out, HT.out, HK.out⟩
end Go.Proofs.Ytkkgajlddlnghaa

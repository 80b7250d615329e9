/- VECTORS OF STRUCTS, among other things. -/
import Derived.Test.YtegnpplffhkjhaaKxCp
import Derived.Test.YtegnpplffhkjhaaKxIn
set_option linter.unusedVariables false
set_option linter.unusedSimpArgs false
namespace Go.Kx
section
variable {α : Type} {enc : α → List Value} {sz : Nat} {H : PH} {L : List Ob}
/-- A cell's address, and that it stays the one of this element. -/
theorem idx_ld3 {β : Type} {en : β → Value} {s : Sl} {l : List β} {i : Int} {K : Addr → β → Prop} (h : ListAt en H s l) (h0 : 0 ≤ i) (h1 : i < l.length)
    (hK : ∀ a x, l[i.toNat]? = some x → (∀ H' l' y, ListAt en H' s l' → l'[i.toNat]? = some y → cellAt H' a = some (en y)) → K a x) : mIdx s 1 i fun a => mLd en H a (K a) := by
  have hlt : i.toNat < l.length := by omega
  obtain ⟨a, ha, hs, hc⟩ := h.2.2 i.toNat l[i.toNat] (by simp [hlt])
  have hc' : cellAt H (a.add (i.toNat * 1)) = some (en l[i.toNat]) := by simpa using hc
  refine ⟨_, ⟨a, ha, h0, by rw [h.1]; omega, rfl⟩, _, hc', hK _ _ (by simp [hlt]) fun H' l' y h' hy => ?_⟩
  obtain ⟨a', ha', hs', hc''⟩ := h'.2.2 i.toNat y hy
  rw [ha] at ha'; cases ha'
  simpa using hc''
theorem stF (hen : ∀ x, (enc x).length = sz) {s : Sl} {l : List α} {i j : Nat} {x y : α} {a : Addr} {v : Value} {K : PH → Prop} (h : Elem enc sz H s l i x a) (hj : j < sz) (hy : enc y = (enc x).set j v) (hv : cellV v = true)
    (hK : ∀ H', VecN enc sz H' s (l.set i y) → Keep s H H' → K H') : mSt H (a.add j) [v] K := by
  have hi := h.lt
  obtain ⟨⟨b, sp, e, spare, rfl, h2, h3, rfl⟩, hx⟩ := h
  have hs := flat_split (enc := enc) hx
  have hl := take_flat_len hen (l := l) (i := i) (by omega)
  have hlen : i * sz + sz ≤ (l.flatMap enc ++ spare).length := by rw [hs]; simp only [List.length_append, hl, hen]; omega
  refine ⟨b, i * sz + j, _, e, by rw [add_mk], h3, by simp only [List.length_singleton]; omega, by simp [hv], hK _ (.inr ⟨b, sp, e, spare, by simp, h2, ?_⟩) fun c o hc hn => ?_⟩
  · rw [PH.upd_same]
    congr 2
    have hs2 : (l.set i y).flatMap enc = (l.take i).flatMap enc ++ enc y ++ (l.drop (i + 1)).flatMap enc := by
      have := flat_split (enc := enc) (l := l.set i y) (i := i) (x := y) (by rw [List.getElem?_set_self hi])
      rw [this, List.take_set_of_le (Nat.le_refl _), List.drop_set_of_lt (by omega)]
    rw [hs2, hs]
    simp only [List.append_assoc, putAt]
    rw [List.set_append_right _ _ (by omega), hl, Nat.add_sub_cancel_left, List.set_append_left _ _ (by rw [hen]; exact hj), hy]
  · rw [PH.upd_other _ _ (fun e => hn ⟨_, rfl, e.symm⟩)]; exact hc
theorem S_stF (hen : ∀ x, (enc x).length = sz) {s : Sl} {l : List α} {i j : Nat} {x : α} (y : α) {a : Addr} {v : Value} {K : PH → Prop} (h : Stars H L) (k : Nat) (hk : L[k]? = some (vecNO enc sz s l)) (he : Elem enc sz H s l i x a) (hj : j < sz) (hy : enc y = (enc x).set j v) (hv : cellV v = true)
    (hK : ∀ H', Stars H' (L.set k (vecNO enc sz s (l.set i y))) → K H') : mSt H (a.add j) [v] K :=
  stF hen he hj hy hv fun H' w kp => hK H' (h.turn (O' := vecNO enc sz s (l.set i y)) k hk w (fun c hc => .inl hc) fun c o hc hn => kp c o hc hn)
theorem S_stN (hen : ∀ x, (enc x).length = sz) {s : Sl} {l : List α} {i : Nat} {x : α} (y : α) {a : Addr} {K : PH → Prop} (h : Stars H L) (k : Nat) (hk : L[k]? = some (vecNO enc sz s l)) (he : Elem enc sz H s l i x a) (hv : (enc y).all cellV = true)
    (hK : ∀ H', Stars H' (L.set k (vecNO enc sz s (l.set i y))) → K H') : mSt H a (enc y) K :=
  stN hen he hv fun H' w kp => hK H' (h.turn (O' := vecNO enc sz s (l.set i y)) k hk w (fun c hc => .inl hc) fun c o hc hn => kp c o hc hn)
theorem S_appN (hen : ∀ x, (enc x).length = sz) (hz0 : 0 < sz) {e m : Nat} {zs : List Value} {s x : Sl} {l ys : List α} {K : Sl → PH → Prop} (h : Stars H L) (k : Nat) (hk : L[k]? = some (vecNO enc sz s l)) (hx : sliceCells H x sz = some (ys.flatMap enc)) (hxl : x.len = ys.length) (hc : ∀ y, (enc y).all cellV = true) (hz : zs.length = sz)
    (hb : (4 * (l.length + ys.length) + 4096) * m ≤ 2 ^ 48) (hK : ∀ r H', Stars H' (L.set k (vecNO enc sz r (l ++ ys))) → K r H') : mApp H e sz m zs s x K :=
  appN hen hz0 (h.get k hk) hx hxl hc hz hb fun r H' v kp n => hK r H' (h.turn (O' := vecNO enc sz r (l ++ ys)) k hk v n fun c o hc hn => kp c o hc hn)
theorem S_new1N {x : α} {cs : List Value} {e : TypeId} {K : Sl → PH → Prop} (h : Stars H L) (hcs : cs = enc x) (hK : ∀ r H', Stars H' (L ++ [vecNO enc sz r [x]]) → Ext H H' → K r H') : mNewS H (row cs e) 1 K := by
  subst hcs
  intro r H' hn
  exact hK r H' (h.new (O' := vecNO enc sz r [x]) (.newS hn) (VecN.ofNewL (l := [x]) hn (by simp) rfl) (Own0.ofNew hn)) (.newS hn)
theorem S_mkSIN {e : TypeId} {x : α} {cs : List Value} {n : Int} {K : Sl → PH → Prop} (h : Stars H L) (hcs : cs = enc x) (hK : ∀ r H', Stars H' (L ++ [vecNO enc sz r (List.replicate n.toNat x)]) → Ext H H' → K r H') : mNewSI H (row (zeros n.toNat cs) e) n n K := by
  subst hcs
  intro r H' hn
  exact hK r H' (h.new (O' := vecNO enc sz r (List.replicate n.toNat x)) (.newS hn) (VecN.ofNewL hn mkN_list (by simp)) (Own0.ofNew hn)) (.newS hn)
theorem Stars.nilN (h : Stars H L) : Stars H (L ++ [vecNO enc sz Sl.nil []]) := h.new (O' := vecNO enc sz Sl.nil ([] : List α)) (.refl H) (.inl ⟨rfl, rfl⟩) fun c hc => absurd hc nilHas
theorem VecN.listN (hen : ∀ x, (enc x).length = sz) {s : Sl} {l : List α} (h : VecN enc sz H s l) : ListN enc sz H s l := by
  refine ⟨h.len, h.bound, fun i x hx => ?_⟩
  have hi := (List.getElem?_eq_some_iff.1 hx).1
  obtain ⟨a, ⟨a0, h1, h2, h3, h4⟩, hK⟩ := idxN (i := i) (K := fun a => ∃ y, Elem enc sz H s l i y a) h (by omega) (by omega) fun a y el => ⟨y, by simpa using el⟩
  obtain ⟨y, el⟩ := hK
  have hxy : x = y := by have := el.get; rw [hx] at this; cases this; rfl
  subst hxy
  obtain ⟨⟨b, sp, e, spare, hs, _, _, ha⟩, _⟩ := el
  refine ⟨⟨b, 0, none⟩, by rw [hs], rfl, ?_⟩
  rw [add_mk, Nat.zero_add, ← ha]
  exact Elem.cells hen ⟨⟨b, sp, e, spare, hs, by assumption, by assumption, ha⟩, hx⟩
theorem ListN.cells (hen : ∀ x, (enc x).length = sz) (hz : 0 < sz) {s : Sl} {l : List α} (h : ListN enc sz H s l) : sliceCells H s sz = some (l.flatMap enc) := by
  obtain ⟨h1, h2, h3⟩ := h
  unfold sliceCells
  cases ha : s.a with
  | none =>
    cases l with
    | nil => rfl
    | cons x l => obtain ⟨a, ha', _⟩ := h3 0 x rfl; rw [ha] at ha'; cases ha'
  | some a =>
    simp only
    rw [h1]
    cases l with
    | nil => simp [cellsAt]
    | cons x0 l0 =>
      have hp : ∀ (i : Nat) (x : α), (x0 :: l0)[i]? = some x → a.spot = none ∧ cellsAt H (a.add (i * sz)) sz = some (enc x) := fun i x hi => by
        obtain ⟨a', ha', hs, hc⟩ := h3 i x hi
        rw [ha] at ha'; cases ha'
        exact ⟨hs, hc⟩
      obtain ⟨hs, h0⟩ := hp 0 x0 rfl
      rw [Nat.zero_mul, add_zero'] at h0
      unfold cellsAt at h0
      rw [if_neg (by omega)] at h0
      cases hb : H a.block with
      | none => rw [hb] at h0; cases h0
      | some o =>
        cases o with
        | cells c e f =>
          have hq : ∀ (i : Nat) (x : α), (x0 :: l0)[i]? = some x → a.off + i * sz + sz ≤ c.size ∧ (c.toList.drop (a.off + i * sz)).take sz = enc x := fun i x hi => by
            have h5 := (hp i x hi).2
            unfold cellsAt at h5
            rw [if_neg (by omega), add_block, hb] at h5
            simp only [add_spot _ _ hs, add_off, Option.isSome_none, Bool.false_eq_true, if_false] at h5
            split at h5
            · rename_i hle
              exact ⟨hle, by simpa using h5⟩
            · cases h5
          generalize x0 :: l0 = l at hq
          have key : ∀ n, n ≤ l.length → a.off + n * sz ≤ c.size ∨ n = 0 := fun n hn => by
            cases n with
            | zero => exact .inr rfl
            | succ n =>
              have := (hq n (l[n]'(by omega)) (by simp)).1
              left
              rw [Nat.add_mul, Nat.one_mul]; omega
          have sum : ∀ n, n ≤ l.length → (c.toList.drop a.off).take (n * sz) = (l.take n).flatMap enc := fun n => by
            induction n with
            | zero => intro _; simp
            | succ n ih =>
              intro hn
              have hx : l[n]? = some (l[n]'(by omega)) := by simp
              rw [Nat.add_mul, Nat.one_mul, List.take_add, ih (by omega), List.drop_drop, (hq n _ hx).2, List.take_add_one, hx, List.flatMap_append]
              simp
          have hs' := sum l.length (Nat.le_refl _)
          rw [List.take_length] at hs'
          unfold cellsAt
          by_cases hn : l.length = 0
          · have : l = [] := List.length_eq_zero_iff.1 hn
            subst this; simp
          · rw [if_neg (by have := Nat.mul_pos (Nat.pos_of_ne_zero hn) hz; omega), hb]
            simp only [hs, Option.isSome_none, Bool.false_eq_true, if_false]
            rcases key l.length (Nat.le_refl _) with h | h
            · rw [if_pos h, hs']
            · exact absurd h hn
        | _ => rw [hb] at h0; cases h0
theorem idxL2 {s : Sl} {l : List α} {i : Int} {K : Addr → Prop} (h : ListN enc sz H s l) (h0 : 0 ≤ i) (h1 : i < l.length) (hK : ∀ a x, l[i.toNat]? = some x → cellsAt H a sz = some (enc x) → K a) : mIdx s sz i K := idxL h h0 h1 hK
/-- Cells of another slice fill a vector from its first on. -/
theorem copyN (hen : ∀ x, (enc x).length = sz) (hz : 0 < sz) {s x : Sl} {l ys : List α} {K : Int → PH → Prop} (hs : VecN enc sz H s l) (hx : ListN enc sz H x ys) (hle : ys.length ≤ l.length) (hc : ∀ y, (enc y).all cellV = true)
    (hK : ∀ H', VecN enc sz H' s (ys ++ l.drop ys.length) → Keep s H H' → K (ys.length : Nat) H') : mCopy H sz s x K := by
  have hl := hs.len
  have hxl := hx.1
  have e1 : min x.len s.len = x.len := by omega
  have hcell := hx.cells hen hz
  refine ⟨ys.flatMap enc, by rw [e1]; exact hcell, by simp [List.all_flatMap, hc], ?_⟩
  rw [e1, hxl]
  rcases hs with ⟨rfl, rfl⟩ | ⟨b, sp, e, spare, rfl, h2, h3⟩
  · have : ys = [] := List.length_eq_zero_iff.1 (by simpa using hle)
    subst this
    exact hK H (.inl ⟨rfl, rfl⟩) fun c o h _ => h
  · refine ⟨b, 0, _, e, rfl, h3, by rw [List.length_append, flat_len hen, flat_len hen]; have := Nat.mul_le_mul_right sz hle; omega, hK _ (.inr ⟨b, sp, e, spare, by simp; omega, h2, ?_⟩) fun c o hco hn => ?_⟩
    · rw [PH.upd_same, putAt_eq _ _ _ (by rw [List.length_append, flat_len hen, flat_len hen]; have := Nat.mul_le_mul_right sz hle; omega)]
      congr 2
      rw [List.take_zero, List.nil_append, Nat.zero_add, List.flatMap_append, List.append_assoc]
      congr 1
      have e2 : l = l.take ys.length ++ l.drop ys.length := by rw [List.take_append_drop]
      have l2 : ((l.take ys.length).flatMap enc).length = (ys.flatMap enc).length := by rw [flat_len hen, flat_len hen, List.length_take, Nat.min_eq_left hle]
      conv => lhs; rw [e2]
      rw [List.flatMap_append, List.append_assoc, ← l2, List.drop_append_of_le_length (Nat.le_refl _), List.drop_length, List.nil_append]
    · rw [PH.upd_other _ _ (fun e => hn ⟨_, rfl, e.symm⟩)]; exact hco
theorem S_copyNN (hen : ∀ x, (enc x).length = sz) (hz : 0 < sz) {s x : Sl} {l ys : List α} {K : Int → PH → Prop} (h : Stars H L) (k : Nat) (hk : L[k]? = some (vecNO enc sz s l)) (hx : ListN enc sz H x ys) (hle : ys.length ≤ l.length) (hc : ∀ y, (enc y).all cellV = true)
    (hK : ∀ H', Stars H' (L.set k (vecNO enc sz s (ys ++ l.drop ys.length))) → K (ys.length : Nat) H') : mCopy H sz s x K :=
  copyN hen hz (h.get k hk) hx hle hc fun H' v kp => hK H' (h.turn (O' := vecNO enc sz s (ys ++ l.drop ys.length)) k hk v (fun c hc => .inl hc) fun c o hc hn => kp c o hc hn)
theorem S_cloneN (hen : ∀ x, (enc x).length = sz) (hz0 : 0 < sz) {s : Sl} {l : List α} {e m e' : Nat} {zs : List Value} {K : Sl → PH → Prop} (hx : ListN enc sz H s l) (hc : ∀ y, (enc y).all cellV = true) (hz : zs.length = sz) (hb : (4 * l.length + 4096) * m ≤ 2 ^ 48)
    (hK : ∀ r H', Stars H' [baseO H, vecNO enc sz r l] → K r H') : mIf (Option.isNone s.a) (K Sl.nil H) (mNewS H (row [] e') 0 fun r2 H3 => mApp H3 e sz m zs r2 s K) := by
  refine mIf_intro (fun c => ?_) (fun _ r2 H3 hn => ?_)
  · have : l = [] := by
      cases l with
      | nil => rfl
      | cons x l =>
        obtain ⟨a, ha, _⟩ := hx.2.2 0 x rfl
        rw [ha] at c; cases c
    subst this
    exact hK Sl.nil H (Stars.start H).nilN
  · have x3 := Ext.newS hn
    have h3 := (Stars.start H).new (O' := vecNO enc sz r2 ([] : List α)) x3 (VecN.ofNewL (l := ([] : List α)) hn (by simp) rfl) (Own0.ofNew hn)
    have hx3 := hx.ext x3
    exact S_appN hen hz0 (l := []) (ys := l) h3 1 rfl (hx3.cells hen hz0) hx3.1 hc hz (by simpa using hb) fun r H4 h4 => hK r H4 h4
end
end Go.Kx

/- VECTORS WHOSE ELEMENTS HAVE MORE CELLS THAN ONE. -/
import Derived.Test.YtegnpplffhkjhaaKxZ
import Derived.Test.YtegnpplffhkjhaaKxBig
set_option linter.unusedVariables false
set_option linter.unusedSimpArgs false
namespace Go.Kx
section
variable {α : Type} {enc : α → List Value} {sz : Nat}

def VecN (enc : α → List Value) (sz : Nat) (H : PH) (s : Sl) (l : List α) : Prop :=
  (s = Sl.nil ∧ l = []) ∨ ∃ b sp e spare, s = ⟨some ⟨b, 0, none⟩, l.length, l.length + sp⟩ ∧ List.length spare = sp * sz ∧ H b = some (row (l.flatMap enc ++ spare) e)

theorem flat_len (hen : ∀ x, (enc x).length = sz) : ∀ l : List α, (l.flatMap enc).length = l.length * sz
  | [] => by simp
  | x :: l => by
    rw [List.flatMap_cons, List.length_append, hen, flat_len hen l, List.length_cons, Nat.add_mul, Nat.one_mul, Nat.add_comm]
theorem flat_split {l : List α} {i : Nat} {x : α} (hx : l[i]? = some x) : l.flatMap enc = (l.take i).flatMap enc ++ enc x ++ (l.drop (i + 1)).flatMap enc := by
  have hi := (List.getElem?_eq_some_iff.1 hx).1
  have he := (List.getElem?_eq_some_iff.1 hx).2
  have e : l = l.take i ++ x :: l.drop (i + 1) := by
    rw [← he, List.getElem_cons_drop, List.take_append_drop]
  conv => lhs; rw [e]
  simp [List.flatMap_append]
theorem take_flat_len (hen : ∀ x, (enc x).length = sz) {l : List α} {i : Nat} (hi : i ≤ l.length) : ((l.take i).flatMap enc).length = i * sz := by
  rw [flat_len hen, List.length_take, Nat.min_eq_left hi]

theorem VecN.len {H : PH} {s : Sl} {l : List α} (h : VecN enc sz H s l) : s.len = l.length := by
  rcases h with ⟨rfl, rfl⟩ | ⟨b, sp, e, spare, rfl, _⟩ <;> rfl
theorem VecN.lenI {H : PH} {s : Sl} {l : List α} (h : VecN enc sz H s l) : (s.len : Int) = l.length := by rw [h.len]
theorem VecN.ext {A B : PH} {s : Sl} {l : List α} (h : VecN enc sz A s l) (x : Ext A B) : VecN enc sz B s l := by
  rcases h with h | ⟨b, sp, e, spare, h1, h2, h3⟩
  · exact .inl h
  · exact .inr ⟨b, sp, e, spare, h1, h2, x _ _ h3⟩
theorem VecN.agree {A B : PH} {s : Sl} {l : List α} (h : VecN enc sz A s l) (x : ∀ c o, s.has c → A c = some o → B c = some o) : VecN enc sz B s l := by
  rcases h with h | ⟨b, sp, e, spare, h1, h2, h3⟩
  · exact .inl h
  · exact .inr ⟨b, sp, e, spare, h1, h2, x _ _ ⟨_, by rw [h1], rfl⟩ h3⟩
theorem VecN.ofNew {H H' : PH} {s : Sl} {l : List α} {e : TypeId} (h : NewS H (row (l.flatMap enc) e) l.length l.length s H') : VecN enc sz H' s l := by
  obtain ⟨b, hb, rfl, rfl⟩ := h
  exact .inr ⟨b, 0, e, [], by simp, by simp, by simp⟩
theorem VecN.ofNewL {H H' : PH} {s : Sl} {l : List α} {e : TypeId} {cs : List Value} {n : Nat} (h : NewS H (row cs e) n n s H') (hc : cs = l.flatMap enc) (hn : n = l.length) : VecN enc sz H' s l := by
  subst hc; subst hn; exact .ofNew h

/-- Where an element lies. -/
structure Elem (enc : α → List Value) (sz : Nat) (H : PH) (s : Sl) (l : List α) (i : Nat) (x : α) (a : Addr) : Prop where
  at_ : ∃ b sp e spare, s = ⟨some ⟨b, 0, none⟩, l.length, l.length + sp⟩ ∧ List.length spare = sp * sz ∧ H b = some (row (l.flatMap enc ++ spare) e) ∧ a = ⟨b, i * sz, none⟩
  get : l[i]? = some x
theorem idxN {H : PH} {s : Sl} {l : List α} {i : Int} {K : Addr → Prop} (h : VecN enc sz H s l) (h0 : 0 ≤ i) (h1 : i < l.length) (hK : ∀ a x, Elem enc sz H s l i.toNat x a → K a) : mIdx s sz i K := by
  rcases h with ⟨rfl, rfl⟩ | ⟨b, sp, e, spare, rfl, h2, h3⟩
  · simp at h1; omega
  · have hlt : i.toNat < l.length := by omega
    exact ⟨_, ⟨_, rfl, h0, by simpa using h1, rfl⟩, hK _ l[i.toNat] ⟨⟨b, sp, e, spare, rfl, h2, h3, by rw [add_mk, Nat.zero_add]⟩, by simp [hlt]⟩⟩
theorem Elem.lt {H : PH} {s : Sl} {l : List α} {i : Nat} {x : α} {a : Addr} (h : Elem enc sz H s l i x a) : i < l.length := (List.getElem?_eq_some_iff.1 h.get).1
theorem Elem.cells (hen : ∀ x, (enc x).length = sz) {H : PH} {s : Sl} {l : List α} {i : Nat} {x : α} {a : Addr} (h : Elem enc sz H s l i x a) : cellsAt H a sz = some (enc x) := by
  obtain ⟨⟨b, sp, e, spare, rfl, h2, h3, rfl⟩, hx⟩ := h
  have hi := (List.getElem?_eq_some_iff.1 hx).1
  have hs := flat_split (enc := enc) hx
  have hl := take_flat_len hen (l := l) (i := i) (by omega)
  rw [cellsAt_of_row h3 (by
    rw [hs]; simp only [List.length_append, hl, hen]; omega)]
  rw [hs]
  simp only [List.append_assoc]
  rw [List.drop_append_of_le_length (by omega), List.drop_of_length_le (by omega), List.nil_append, List.take_append_of_le_length (by rw [hen]; omega), List.take_of_length_le (by rw [hen]; omega)]
theorem Elem.cell (hen : ∀ x, (enc x).length = sz) {H : PH} {s : Sl} {l : List α} {i j : Nat} {x : α} {a : Addr} {v : Value} (h : Elem enc sz H s l i x a) (hj : (enc x)[j]? = some v) : cellAt H (a.add j) = some v := by
  obtain ⟨⟨b, sp, e, spare, rfl, h2, h3, rfl⟩, hx⟩ := h
  have hi := (List.getElem?_eq_some_iff.1 hx).1
  have hs := flat_split (enc := enc) hx
  have hl := take_flat_len hen (l := l) (i := i) (by omega)
  have hjl := (List.getElem?_eq_some_iff.1 hj).1
  rw [add_mk, cellAt_of_row h3, hs]
  simp only [List.append_assoc]
  rw [List.getElem?_append_right (by omega), hl, Nat.add_sub_cancel_left, List.getElem?_append_left hjl, hj]
theorem ldN (hen : ∀ x, (enc x).length = sz) {H : PH} {s : Sl} {l : List α} {i : Nat} {x : α} {a : Addr} {K : List Value → Prop} (h : Elem enc sz H s l i x a) (hK : K (enc x)) : mLdA H a sz K := ⟨_, h.cells hen, hK⟩
theorem stN (hen : ∀ x, (enc x).length = sz) {H : PH} {s : Sl} {l : List α} {i : Nat} {x y : α} {a : Addr} {K : PH → Prop} (h : Elem enc sz H s l i x a) (hv : (enc y).all cellV = true) (hK : ∀ H', VecN enc sz H' s (l.set i y) → Keep s H H' → K H') : mSt H a (enc y) K := by
  have hi := h.lt
  obtain ⟨⟨b, sp, e, spare, rfl, h2, h3, rfl⟩, hx⟩ := h
  have hs := flat_split (enc := enc) hx
  have hl := take_flat_len hen (l := l) (i := i) (by omega)
  have hlen : i * sz + sz ≤ (l.flatMap enc ++ spare).length := by rw [hs]; simp only [List.length_append, hl, hen]; omega
  refine ⟨b, i * sz, _, e, rfl, h3, by rw [hen]; exact hlen, hv, hK _ (.inr ⟨b, sp, e, spare, by simp, h2, ?_⟩) fun c o hc hn => ?_⟩
  · rw [PH.upd_same, putAt_eq _ _ _ (by rw [hen]; exact hlen)]
    congr 2
    have hs2 : (l.set i y).flatMap enc = (l.take i).flatMap enc ++ enc y ++ (l.drop (i + 1)).flatMap enc := by
      have := flat_split (enc := enc) (l := l.set i y) (i := i) (x := y) (by rw [List.getElem?_set_self hi])
      rw [this, List.take_set_of_le (Nat.le_refl _), List.drop_set_of_lt (by omega)]
    rw [hs2, hs]
    simp only [List.append_assoc]
    rw [List.take_append_of_le_length (by omega), List.take_of_length_le (by omega)]
    congr 2
    rw [hen, List.drop_append, List.drop_of_length_le (by omega), List.nil_append, hl, Nat.add_sub_cancel_left, List.drop_append_of_le_length (by rw [hen]; omega), List.drop_of_length_le (by rw [hen]; omega), List.nil_append]
  · rw [PH.upd_other _ _ (fun e => hn ⟨_, rfl, e.symm⟩)]; exact hc
/-- A new vector of one thing. -/
theorem zeros_flat (z : List Value) : ∀ n : Nat, zeros n z = (List.replicate n z).flatten
  | 0 => by simp [zeros]
  | n + 1 => by
    have ih := zeros_flat z n
    have e : zeros (n + 1) z = zeros n z ++ z := by
      by_cases hz : z.length = 0
      · have : z = [] := List.length_eq_zero_iff.1 hz
        subst this; simp [zeros]
      · unfold zeros
        rw [Nat.add_mul, Nat.one_mul, List.range_add, List.map_append, List.map_map]
        congr 1
        apply List.ext_getElem
        · simp
        · intro i h1 h2
          have hi : i < z.length := h2
          simp [Nat.mul_add_mod, Nat.add_mod, Nat.mod_eq_of_lt hi, hi]
    rw [e, ih, List.replicate_succ', List.flatten_append]; simp
theorem mkN_list {n : Nat} {x : α} : zeros n (enc x) = (List.replicate n x).flatMap enc := by rw [zeros_flat]; simp [List.flatMap_def]
theorem mkN {H : PH} {e m : Nat} {x : α} {n : Int} {K : Sl → PH → Prop} (h0 : 0 ≤ n) (hm : (m : Int) * n ≤ 2 ^ 48)
    (hK : ∀ r H', Ext H H' → Own0 H r → VecN enc sz H' r (List.replicate n.toNat x) → K r H') : mMk H e m (enc x) n n K := by
  refine ⟨⟨h0, Int.le_refl _, hm⟩, fun r H' hn => hK r H' (.newS hn) (.ofNew hn) (VecN.ofNewL hn mkN_list (by simp))⟩

/-! ### The cells of a slice -/
theorem VecN.cells (hen : ∀ x, (enc x).length = sz) (hz : 0 < sz) {H : PH} {s : Sl} {l : List α} (h : VecN enc sz H s l) : sliceCells H s sz = some (l.flatMap enc) := by
  unfold sliceCells
  rcases h with ⟨rfl, rfl⟩ | ⟨b, sp, e, spare, rfl, h2, h3⟩
  · simp
  · simp only
    by_cases h0 : l.length = 0
    · have : l = [] := List.length_eq_zero_iff.1 h0
      subst this; simp [cellsAt]
    · rw [cellsAt_of_row h3 (by rw [List.length_append, flat_len hen]; omega)]
      rw [List.drop_zero, List.take_append_of_le_length (by rw [flat_len hen]; omega), List.take_of_length_le (by rw [flat_len hen]; omega)]
theorem VecN.bound {H : PH} {s : Sl} {l : List α} (h : VecN enc sz H s l) : s.len ≤ s.cap := by
  rcases h with ⟨rfl, rfl⟩ | ⟨b, sp, e, spare, rfl, h2, h3⟩ <;> simp
/-- 'append' to a vector of the call's own. -/
theorem appN (hen : ∀ x, (enc x).length = sz) (hz0 : 0 < sz) {H : PH} {e m : Nat} {zs : List Value} {s x : Sl} {l ys : List α} {K : Sl → PH → Prop} (hs : VecN enc sz H s l) (hx : sliceCells H x sz = some (ys.flatMap enc)) (hxl : x.len = ys.length) (hc : ∀ y, (enc y).all cellV = true) (hz : zs.length = sz)
    (hb : (4 * (l.length + ys.length) + 4096) * m ≤ 2 ^ 48)
    (hK : ∀ r H', VecN enc sz H' r (l ++ ys) → Keep s H H' → (∀ c, r.has c → s.has c ∨ H c = none) → K r H') : mApp H e sz m zs s x K := by
  have hsl := hs.len
  refine ⟨ys.flatMap enc, hx, by rw [flat_len hen, hxl], by simp [List.all_flatMap, hc], ?_⟩
  split
  · rename_i hle
    rcases hs with ⟨rfl, rfl⟩ | ⟨b, sp, e', spare, rfl, h2, hbk⟩
    · have hy : ys = [] := by
        simp at hle; rw [hle] at hxl
        exact List.length_eq_zero_iff.1 hxl.symm
      subst hy
      refine ⟨by simp, hK _ _ (.inl ⟨by simp at hxl; simp [hxl], rfl⟩) (fun c o h _ => h) fun c hc => ?_⟩
      obtain ⟨a, ha, _⟩ := hc; cases ha
    · simp only at hle ⊢
      have hyl : ys.length ≤ sp := by omega
      have hmul : ys.length * sz ≤ sp * sz := Nat.mul_le_mul_right _ hyl
      refine ⟨b, 0, _, e', rfl, hbk, ?_, hK _ _ (.inr ⟨b, sp - ys.length, e', spare.drop (ys.length * sz), ?_, ?_, ?_⟩) (fun c o hc hn => ?_) fun c hc => ?_⟩
      · simp only [Nat.zero_add, List.length_append, flat_len hen, h2]; omega
      · simp [hxl]; omega
      · rw [List.length_drop, h2, Nat.sub_mul]
      · simp only [PH.upd_same, Nat.zero_add]
        rw [putAt_eq _ _ _ (by simp only [List.length_append, flat_len hen, h2]; omega)]
        have e1 : List.take (l.length * sz) (l.flatMap enc ++ spare) = l.flatMap enc := by rw [List.take_append_of_le_length (by rw [flat_len hen]; omega), List.take_of_length_le (by rw [flat_len hen]; omega)]
        have e2 : List.drop (l.length * sz + (ys.flatMap enc).length) (l.flatMap enc ++ spare) = spare.drop (ys.length * sz) := by
          rw [List.drop_append, List.drop_of_length_le (by rw [flat_len hen, flat_len hen]; omega), List.nil_append, flat_len hen, flat_len hen, Nat.add_sub_cancel_left]
        rw [e1, e2, List.flatMap_append]
      · rw [PH.upd_other _ _ (fun e => hn ⟨_, rfl, e.symm⟩)]; exact hc
      · obtain ⟨a, ha, hab⟩ := hc; cases ha; exact .inl ⟨_, rfl, hab⟩
  · refine ⟨l.flatMap enc, hs.cells hen hz0, by rw [hsl, hxl]; exact hb, hs.bound, fun b c hbn hcc => ?_⟩
    refine hK _ _ (.inr ⟨b, c - (s.len + x.len), e, zeros (c - (s.len + x.len)) zs, ?_, ?_, ?_⟩) (fun c' o hc' _ => ?_) fun c' hc' => ?_
    · rw [List.length_append, ← hsl, ← hxl]; simp; omega
    · rw [zeros_length, hz]
    · simp
    · rw [PH.upd_other _ _ (fun e => by subst e; rw [hbn] at hc'; cases hc')]; exact hc'
    · obtain ⟨a, ha, hab⟩ := hc'; cases ha; subst hab; exact .inr hbn
end
end Go.Kx

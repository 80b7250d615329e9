/- MORE OF LISTS: cuts, copies, vectors that are written to. -/
import Derived.Test.YtegnpplffhkjhaaKxV
set_option linter.unusedVariables false
set_option linter.unusedSimpArgs false
namespace Go.Kx
theorem add_add' (a : Addr) (m n : Nat) (h : a.spot = none) : (a.add m).add n = a.add (m + n) := by
  obtain ⟨b, o, sp⟩ := a
  simp only at h; subst h
  rw [add_mk, add_mk, add_mk, Nat.add_assoc]
/-- All but what s has stands. -/
def Keep (s : Sl) (H H' : PH) : Prop := ∀ c o, H c = some o → ¬ s.has c → H' c = some o
/-- A vector of the call's own, apart from what stood in H0. -/
def Own0 (H0 : PH) (s : Sl) : Prop := ∀ c, s.has c → H0 c = none
theorem Own0.nil {H : PH} : Own0 H Sl.nil := fun c ⟨a, ha, _⟩ => by cases ha
theorem Ext.keep {H0 H H' : PH} {s : Sl} (h : Ext H0 H) (k : Keep s H H') (o : Own0 H0 s) : Ext H0 H' := fun c x hc => k c x (h c x hc) fun hh => by rw [o c hh] at hc; cases hc
theorem Own0.ofNew {H H' : PH} {o : Obj} {n c : Nat} {r : Sl} (h : NewS H o n c r H') : Own0 H r := by
  obtain ⟨b, hb, rfl, rfl⟩ := h
  rintro c ⟨a, ha, hab⟩; cases ha; subst hab; exact hb
theorem Own0.ext {A B : PH} {s : Sl} (h : Own0 B s) (x : Ext A B) : Own0 A s := fun c hc => x.none (h c hc)
theorem NewS.list {α : Type} {enc : α → Value} {H H' : PH} {s : Sl} {l : List α} {e : TypeId} (h : NewS H (row (l.map enc) e) l.length l.length s H') : ListAt enc H' s l := (Vec.ofNew h).list

variable {α : Type} {enc : α → Value}
/-- A new vector of one thing. -/
theorem mk_vec {H : PH} {e m : Nat} {x : α} {n : Int} {K : Sl → PH → Prop} (h0 : 0 ≤ n) (hm : (m : Int) * n ≤ 2 ^ 48)
    (hK : ∀ r H', Ext H H' → Own0 H r → Vec enc H' r (List.replicate n.toNat x) → K r H') : mMk H e m [enc x] n n K := by
  refine ⟨⟨h0, Int.le_refl _, hm⟩, fun r H' hn => hK r H' (.newS hn) (.ofNew hn) ?_⟩
  have e1 : zeros n.toNat [enc x] = (List.replicate n.toNat x).map enc := by rw [zeros_one, List.map_replicate]
  rw [e1] at hn
  exact Vec.ofNew (l := List.replicate n.toNat x) (e := e) (by simpa using hn)

/-- A part of a list. -/
theorem cut_list {H : PH} {s : Sl} {l : List α} {lo hi : Int} {K : Sl → Prop} (h : ListAt enc H s l) (h0 : 0 ≤ lo) (h1 : lo ≤ hi) (h2 : hi ≤ l.length)
    (hK : ∀ r, ListAt enc H r ((l.drop lo.toNat).take (hi.toNat - lo.toNat)) → (∀ c, r.has c → s.has c) → K r) : mCut s 1 lo hi K := by
  have hl := h.1
  have hc := h.2.1
  refine ⟨_, ⟨h0, h1, by omega, hc, rfl⟩, hK _ ⟨?_, ?_, ?_⟩ ?_⟩
  · simp only [Sl.cut, List.length_take, List.length_drop]; omega
  · simp only [Sl.cut]; omega
  · intro i x hi
    rw [List.getElem?_take] at hi
    split at hi
    · rw [List.getElem?_drop] at hi
      obtain ⟨a, ha, hs, hx⟩ := h.2.2 _ _ hi
      have hlt := (List.getElem?_eq_some_iff.1 hi).1
      refine ⟨a.add lo.toNat, ?_, ?_, ?_⟩
      · simp only [Sl.cut, ha, Nat.mul_one]
        rw [if_neg (by omega)]; rfl
      · rw [add_spot _ _ hs]
      · rw [add_add' _ _ _ hs]; exact hx
    · cases hi
  · rintro c ⟨a, ha, hab⟩
    simp only [Sl.cut] at ha
    split at ha
    · exact ⟨a, ha, hab⟩
    · rw [Option.map_eq_some_iff] at ha
      obtain ⟨a', ha', rfl⟩ := ha
      exact ⟨a', ha', by rw [← hab, add_block]⟩

theorem cells_all (hc : ∀ y, cellV (enc y) = true) (l : List α) : (l.map enc).all cellV = true := by simp [hc]
/-- A cell of a vector is written. -/
theorem put_vec {H : PH} {s : Sl} {l : List α} {i : Int} {x : α} {K : PH → Prop} (hs : Vec enc H s l) (h0 : 0 ≤ i) (h1 : i < l.length) (hc : cellV (enc x) = true)
    (hK : ∀ H', Vec enc H' s (l.set i.toNat x) → Keep s H H' → K H') : mIdx s 1 i fun a => mSt H a [enc x] K := by
  rcases hs with ⟨rfl, rfl⟩ | ⟨b, sp, e, rfl, hb⟩
  · simp at h1; omega
  · refine ⟨_, ⟨_, rfl, h0, by simpa using h1, rfl⟩, b, i.toNat, l.map enc ++ sp, e, by simp [add_mk], hb, by simp; omega, by simp [hc], hK _ (.inr ⟨b, sp, e, by simp, ?_⟩) ?_⟩
    · simp only [PH.upd_same]
      rw [putAt, putAt, List.map_set, List.set_append_left _ _ (by simp; omega)]
    · intro c o hco hn
      rw [PH.upd_other _ _ (fun e => hn ⟨_, rfl, e.symm⟩)]; exact hco
/-- A vector is filled by a copy. -/
theorem copy_vec {H : PH} {s x : Sl} {l ys : List α} {K : Int → PH → Prop} (hs : Vec enc H s l) (hx : ListAt enc H x ys) (hc : ∀ y, cellV (enc y) = true)
    (hK : ∀ H', Vec enc H' s (ys.take l.length ++ l.drop ys.length) → Keep s H H' → K (min ys.length l.length : Nat) H') : mCopy H 1 s x K := by
  have hl := hs.list.1
  have hxl := hx.1
  have hcut : ListAt enc H ⟨x.a, min x.len s.len, x.cap⟩ (ys.take l.length) := by
    refine ⟨by simp; omega, by have := hx.2.1; simp only; omega, fun i y hi => ?_⟩
    rw [List.getElem?_take] at hi
    split at hi
    · exact hx.2.2 i y hi
    · cases hi
  refine ⟨(ys.take l.length).map enc, hcut.cells, cells_all hc _, ?_⟩
  rw [hl, hxl]
  rcases hs with ⟨rfl, rfl⟩ | ⟨b, sp, e, rfl, hb⟩
  · exact hK H (by simp [Vec]) fun c o h _ => h
  · refine ⟨b, 0, _, e, rfl, hb, by simp; omega, hK _ (.inr ⟨b, sp, e, ?_, ?_⟩) ?_⟩
    · simp; omega
    · simp only [PH.upd_same]
      rw [putAt_eq _ _ _ (by simp; omega)]
      have e1 : List.take 0 (l.map enc ++ sp) ++ (ys.take l.length).map enc ++ List.drop (0 + ((ys.take l.length).map enc).length) (l.map enc ++ sp) = (ys.take l.length ++ l.drop ys.length).map enc ++ sp := by
        rw [List.take_zero, List.nil_append, Nat.zero_add, List.length_map, List.length_take, List.drop_append_of_le_length (by simp; omega), List.map_append, List.append_assoc]
        congr 2
        rw [← List.map_drop]
        congr 1
        by_cases h : l.length ≤ ys.length
        · rw [Nat.min_eq_left h, List.drop_of_length_le h, List.drop_of_length_le (Nat.le_refl _)]
        · rw [Nat.min_eq_right (by omega)]
      rw [e1]
    · intro c o hco hn
      rw [PH.upd_other _ _ (fun e => hn ⟨_, rfl, e.symm⟩)]; exact hco
/-- A new row of one thing, for an append or a call of one argument. -/
theorem new1 {H : PH} {x : α} {e : TypeId} {K : Sl → PH → Prop} (hK : ∀ r H', Ext H H' → ListAt enc H' r [x] → Own0 H r → K r H') : mNewS H (row [enc x] e) 1 K := by
  intro r H' hn
  exact hK r H' (.newS hn) (Vec.ofNew (l := [x]) (e := e) hn).list (.ofNew hn)
end Go.Kx

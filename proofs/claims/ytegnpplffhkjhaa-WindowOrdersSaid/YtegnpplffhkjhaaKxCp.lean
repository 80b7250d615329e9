/- COPIES INTO A PART OF A VECTOR; clear. -/
import Derived.Test.YtegnpplffhkjhaaKxStar
set_option linter.unusedVariables false
set_option linter.unusedSimpArgs false
namespace Go.Kx
theorem mJoin_cut {σ : Type} {k : σ → PH → Prop} {body : (σ → PH → Prop) → Prop} (C : σ → PH → Prop) (h1 : ∀ s H, C s H → k s H) (h2 : ∀ k' : σ → PH → Prop, (∀ s H, C s H → k' s H) → body k') : mJoin k body := h2 k h1
section
variable {α : Type} {enc : α → Value} {H : PH} {L : List Ob}
/-- A part of a vector, by its bounds. -/
theorem cut_vec {s : Sl} {l : List α} {lo hi : Int} {K : Sl → Prop} (h : Vec enc H s l) (h0 : 0 ≤ lo) (h1 : lo ≤ hi) (h2 : hi ≤ l.length)
    (hK : ListAt enc H (s.cut 1 lo.toNat hi.toNat) ((l.drop lo.toNat).take (hi.toNat - lo.toNat)) → K (s.cut 1 lo.toNat hi.toNat)) : mCut s 1 lo hi K := by
  have hl := h.list.1
  have hc := h.list.2.1
  refine ⟨_, ⟨h0, h1, by omega, hc, rfl⟩, hK ?_⟩
  obtain ⟨r, ⟨_, _, _, _, rfl⟩, hr⟩ := cut_list (K := fun r => ListAt enc H r ((l.drop lo.toNat).take (hi.toNat - lo.toNat))) h.list h0 h1 h2 fun r hr _ => hr
  exact hr
theorem copy_cut {s x : Sl} {l ys : List α} {lo hi : Nat} {K : Int → PH → Prop} (hs : Vec enc H s l) (h1 : lo ≤ hi) (h2 : hi ≤ l.length) (hx : ListAt enc H x ys) (hc : ∀ y, cellV (enc y) = true)
    (hK : ∀ H', Vec enc H' s (l.take lo ++ ys.take (hi - lo) ++ l.drop (lo + min ys.length (hi - lo))) → Keep s H H' → K (min ys.length (hi - lo) : Nat) H') : mCopy H 1 (s.cut 1 lo hi) x K := by
  have hl := hs.list.1
  have hxl := hx.1
  have hcut : ListAt enc H ⟨x.a, min x.len (s.cut 1 lo hi).len, x.cap⟩ (ys.take (hi - lo)) := by
    refine ⟨by simp only [Sl.cut, List.length_take]; omega, by have := hx.2.1; simp only [Sl.cut]; omega, fun i y hi => ?_⟩
    rw [List.getElem?_take] at hi
    split at hi
    · exact hx.2.2 i y hi
    · cases hi
  refine ⟨(ys.take (hi - lo)).map enc, hcut.cells, cells_all hc _, ?_⟩
  have el : min x.len (s.cut 1 lo hi).len = min ys.length (hi - lo) := by simp only [Sl.cut]; omega
  rw [el]
  rcases hs with ⟨rfl, rfl⟩ | ⟨b, sp, e, rfl, hb⟩
  · simp at h2
    subst h2
    have : lo = 0 := by omega
    subst this
    exact hK H (.inl ⟨rfl, by simp⟩) fun c o h _ => h
  · have key : ∀ cs', cs' = (l.take lo ++ ys.take (hi - lo) ++ l.drop (lo + min ys.length (hi - lo))).map enc ++ sp → K (min ys.length (hi - lo) : Nat) (H.upd b (row cs' e)) := by
      rintro cs' rfl
      refine hK _ (.inr ⟨b, sp, e, ?_, by simp only [PH.upd_same]⟩) fun c o hco hn => ?_
      · simp; omega
      · rw [PH.upd_other _ _ (fun e => hn ⟨_, rfl, e.symm⟩)]; exact hco
    simp only [Sl.cut]
    by_cases ec : l.length + sp.length = lo
    · have e0 : hi - lo = 0 := by omega
      rw [if_pos ec]
      refine ⟨b, 0, _, e, rfl, hb, by simp [e0], key _ ?_⟩
      have : sp = [] := List.length_eq_zero_iff.1 (by omega)
      subst this
      simp [e0, putAt]
    · rw [if_neg ec]
      refine ⟨b, lo, _, e, by simp [add_mk], hb, by simp; omega, key _ ?_⟩
      rw [putAt_eq _ _ _ (by simp; omega), List.length_map, List.length_take, List.take_append_of_le_length (by simp; omega), List.drop_append_of_le_length (by simp; omega)]
      simp only [List.map_append, List.map_take, List.map_drop, List.append_assoc]
      rw [Nat.min_comm (hi - lo)]
theorem clear_vec {s : Sl} {l : List α} {x : α} {K : PH → Prop} (hs : Vec enc H s l) (hK : ∀ H', Vec enc H' s (List.replicate l.length x) → Keep s H H' → K H') : mClear H 1 [enc x] s K := by
  rcases hs with ⟨rfl, rfl⟩ | ⟨b, sp, e, rfl, hb⟩
  · exact .inl ⟨rfl, hK H (.inl ⟨rfl, rfl⟩) fun c o h _ => h⟩
  · by_cases h0 : l.length = 0
    · have : l = [] := List.length_eq_zero_iff.1 h0
      subst this
      exact .inl ⟨rfl, hK H (.inr ⟨b, sp, e, rfl, hb⟩) fun c o h _ => h⟩
    · refine .inr (.inr ⟨h0, b, 0, _, e, rfl, hb, by simp, hK _ (.inr ⟨b, sp, e, by simp, ?_⟩) fun c o hco hn => ?_⟩)
      · simp only [PH.upd_same]
        rw [putAt_eq _ _ _ (by rw [zeros_one]; simp), zeros_one]
        simp
      · rw [PH.upd_other _ _ (fun e => hn ⟨_, rfl, e.symm⟩)]; exact hco
theorem S_cut {s : Sl} {l : List α} {lo hi : Int} {K : Sl → Prop} (h : Stars H L) (i : Nat) (hi' : L[i]? = some (vecO enc s l)) (h0 : 0 ≤ lo) (h1 : lo ≤ hi) (h2 : hi ≤ l.length)
    (hK : ListAt enc H (s.cut 1 lo.toNat hi.toNat) ((l.drop lo.toNat).take (hi.toNat - lo.toNat)) → K (s.cut 1 lo.toNat hi.toNat)) : mCut s 1 lo hi K := cut_vec (h.get i hi') h0 h1 h2 hK
theorem S_cutcopy {s x : Sl} {l ys : List α} {lo hi : Nat} {K : Int → PH → Prop} (h : Stars H L) (i : Nat) (hi' : L[i]? = some (vecO enc s l)) (h1 : lo ≤ hi) (h2 : hi ≤ l.length) (hx : ListAt enc H x ys) (hc : ∀ y, cellV (enc y) = true)
    (hK : ∀ H', Stars H' (L.set i (vecO enc s (l.take lo ++ ys.take (hi - lo) ++ l.drop (lo + min ys.length (hi - lo))))) → K (min ys.length (hi - lo) : Nat) H') : mCopy H 1 (s.cut 1 lo hi) x K :=
  copy_cut (h.get i hi') h1 h2 hx hc fun H' v k => hK H' (h.turn (O' := vecO enc s _) i hi' v (fun c hc => .inl hc) fun c o hc hn => k c o hc hn)
theorem S_clear {s : Sl} {l : List α} {x : α} {K : PH → Prop} (h : Stars H L) (i : Nat) (hi : L[i]? = some (vecO enc s l)) (hK : ∀ H', Stars H' (L.set i (vecO enc s (List.replicate l.length x))) → K H') : mClear H 1 [enc x] s K :=
  clear_vec (h.get i hi) fun H' v k => hK H' (h.turn (O' := vecO enc s (List.replicate l.length x)) i hi v (fun c hc => .inl hc) fun c o hc hn => k c o hc hn)
/-- A doubling copy: the first k are the value already. -/
theorem S_double {l : List α} {n k : Nat} {x : α} {z : List α} (hk : k < n) (hl : l = List.replicate k x ++ z) (hz : z.length = n - k) :
    l.take k ++ (l.take k).take (n - k) ++ l.drop (k + min (l.take k).length (n - k)) = List.replicate (k + min k (n - k)) x ++ z.drop (min k (n - k)) := by
  subst hl
  have e1 : (List.replicate k x ++ z).take k = List.replicate k x := by rw [List.take_append_of_le_length (by simp), List.take_of_length_le (by simp)]
  rw [e1, List.length_replicate, List.take_replicate, List.replicate_append_replicate, List.drop_append, List.drop_of_length_le (by simp), List.nil_append, List.length_replicate, Nat.add_sub_cancel_left, Nat.min_comm (n - k)]
theorem S_copyN {s x : Sl} {l ys : List α} {K : Int → PH → Prop} (h : Stars H L) (i : Nat) (hi : L[i]? = some (vecO enc s l)) (hx : ListAt enc H x ys) (hc : ∀ y, cellV (enc y) = true)
    (hK : ∀ H', Stars H' (L.set i (vecO enc s (ys.take l.length ++ l.drop ys.length))) → K (min ys.length l.length : Nat) H') : mCopy H 1 s x K :=
  copy_vec (h.get i hi) hx hc fun H' v k => hK H' (h.turn (O' := vecO enc s (ys.take l.length ++ l.drop ys.length)) i hi v (fun c hc => .inl hc) fun c o hc hn => k c o hc hn)
theorem S_mkSI {e : TypeId} {x : α} {n : Int} {K : Sl → PH → Prop} (h : Stars H L) (hK : ∀ r H', Stars H' (L ++ [vecO enc r (List.replicate n.toNat x)]) → Ext H H' → K r H') : mNewSI H (row (zeros n.toNat [enc x]) e) n n K := by
  intro r H' hn
  have e1 : zeros n.toNat [enc x] = (List.replicate n.toNat x).map enc := by rw [zeros_one, List.map_replicate]
  rw [e1] at hn
  exact hK r H' (h.new (O' := vecO enc r (List.replicate n.toNat x)) (.newS hn) (Vec.ofNew (l := List.replicate n.toNat x) (e := e) (by simpa using hn)) (Own0.ofNew hn)) (.newS hn)
theorem S_clone0 {s : Sl} {l : List α} {e m e' : Nat} {zs : List Value} {K : Sl → PH → Prop} (hx : ListAt enc H s l) (hc : ∀ y, cellV (enc y) = true) (hz : zs.length = 1) (hb : (4 * l.length + 4096) * m ≤ 2 ^ 48)
    (hK : ∀ r H', Stars H' [baseO H, vecO enc r l] → K r H') : mIf (Option.isNone s.a) (K Sl.nil H) (mNewS H (row [] e') 0 fun r2 H3 => mApp H3 e 1 m zs r2 s K) := by
  refine mIf_intro (fun c => ?_) (fun _ r2 H3 hn => ?_)
  · have : l = [] := by
      cases l with
      | nil => rfl
      | cons x l =>
        obtain ⟨a, ha, _⟩ := hx.2.2 0 x rfl
        rw [ha] at c; cases c
    subst this
    exact hK Sl.nil H (Stars.start H).nilv
  · have x3 := Ext.newS hn
    have h3 := (Stars.start H).new (O' := vecO enc r2 ([] : List α)) x3 (Vec.ofNew (l := ([] : List α)) (e := e') hn) (Own0.ofNew hn)
    exact S_app (l := []) (ys := l) h3 1 rfl (hx.ext x3) hc hz (by simpa using hb) fun r H4 h4 => hK r H4 h4
end
end Go.Kx

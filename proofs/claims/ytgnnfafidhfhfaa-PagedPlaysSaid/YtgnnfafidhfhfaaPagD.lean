/- THE LAW PagedDirty, on formulas. -/
import Derived.Test.YtgnnfafidhfhfaaPagC
set_option linter.unusedVariables false
set_option linter.unusedSimpArgs false
namespace Go.Proofs.Ytgnnfafidhfhfaa
open Go Go.Kx PInt

def enc2 (x : Int × Int) : List Value := [.int .i64 x.1, .int .i64 x.2]
theorem setL_in {l : List Int} {k v : Int} (h0 : 0 ≤ k) (h1 : k < l.length) : setL ne l k v = l.set k.toNat v := by
  unfold setL
  split
  · rfl
  · rename_i h
    have hlt : k.toNat < l.length := by omega
    rw [hitAt, decide_eq_true (show 0 ≤ k ∧ k < (l.length : Int) from ⟨h0, h1⟩), List.getElem?_eq_getElem hlt] at h
    have : l[k.toNat] = v := by simpa [ne] using h
    apply List.ext_getElem?
    intro j
    by_cases e : k.toNat = j
    · subst e; rw [List.getElem?_set_self hlt, List.getElem?_eq_getElem hlt, this]
    · rw [List.getElem?_set_ne e]
theorem hit_in {l : List Int} {k v x : Int} (h0 : 0 ≤ k) (h1 : k < l.length) (hx : l[k.toNat]? = some x) : hitAt ne l k v = (x != v) := by rw [hitAt, decide_eq_true ⟨h0, h1⟩, hx]; rfl
/-- An array's cells, one by one. -/
theorem arr_get {α : Type} {enc : α → Value} {l : List α} {k : Nat} {x : α} (h : l[k]? = some x) : (l.map enc)[k]? = some (enc x) := by simp [h]
theorem idxA_arr {a : Addr} {i : Int} {K : Addr → Prop} {n : Nat} (h0 : 0 ≤ i) (h1 : i < n) (hK : K (a.add i.toNat)) : mIdxA n a 1 i K := idxA_row h0 h1 (by rw [Nat.mul_one]; exact hK)
section
variable {H : PH} {s : Sl} {l : List (Int × Int)} {i : Int}
/-- An element's two numbers. -/
theorem pair1 {K : Int → Prop} (h : ListN enc2 2 H s l) (h0 : 0 ≤ i) (h1 : i < l.length) (hK : ∀ x, l[i.toNat]? = some x → K x.1) : mIdx s 2 i fun a => mIdxA 2 a 1 0 fun b => mLd (.int .i64) H b K :=
  idxL h h0 h1 fun a x hx hc => idxA_arr (by decide) (by decide) ⟨x.1, cells_at hc rfl, hK x hx⟩
theorem pair2 {K : Int → Prop} (h : ListN enc2 2 H s l) (h0 : 0 ≤ i) (h1 : i < l.length) (hK : ∀ x, l[i.toNat]? = some x → K x.2) : mIdx s 2 i fun a => mIdxA 2 a 1 1 fun b => mLd (.int .i64) H b K :=
  idxL h h0 h1 fun a x hx hc => idxA_arr (by decide) (by decide) ⟨x.2, cells_at hc rfl, hK x hx⟩
theorem pair2' {K : Addr → Int → Prop} (h : ListN enc2 2 H s l) (h0 : 0 ≤ i) (h1 : i < l.length) (hK : ∀ b x, l[i.toNat]? = some x → cellAt H b = some (.int .i64 x.2) → K b x.2) : mIdx s 2 i fun a => mIdxA 2 a 1 1 fun b => mLd (.int .i64) H b (K b) :=
  idxL h h0 h1 fun a x hx hc => idxA_arr (by decide) (by decide) ⟨x.2, cells_at hc rfl, hK _ x hx (cells_at hc rfl)⟩
end
theorem dirtyL_len (d : List Bool) : (dirtyL d).length ≤ d.length := dirtyTo_len d d.length

theorem dirty_law {H : PH} {s0 s1 : Sl} {l0 l1 : List (Int × Int)} {p2 : Int} (h0 : ListN enc2 2 H s0 l0) (h1 : ListN enc2 2 H s1 l1) : keelsonlaw11_PagedDirty s0 s1 p2 H (DoneD H) := by
  have hawake : ∀ H2, Ext H H2 → keelsonlaw11_awake H2 (DoneD H) := fun H2 x2 => awake_spec fun H3 x3 => ⟨rfl, x2.trans x3⟩
  have hl0 := h0.lenI; have hl1 := h1.lenI
  refine mJoin_intro (mIf_intro (fun _ => mIf_pos rfl (hawake H (.refl H))) (fun c0 => mIf_intro (fun _ => hawake H (.refl H)) (fun c1 => ?_)))
  have k0 : l0.length ≤ 40 := by simp at c0; omega
  have k1 : l1.length ≤ 40 := by simp at c1; omega
  refine new_froz (Stars.start H) (by decide) fun B a s t H1 xB r h1s => mIf_neg rfl ?_
  have ok1 : PgOk (List.replicate (40 : Int).toNat (0 : Int)).length 4 (List.replicate (pgs 40 4).toNat false) := pgok_new (by decide)
  have rx : ∀ {H' L}, Stars H' (baseO B :: L) → RowAt H' a (pgRow s t 4) := fun h => r.ext h.base
  have hx : ∀ {H' L}, Stars H' (baseO B :: L) → Ext H H' := fun h => xB.trans h.base
  refine S_row h1s fun a12 H2 h2 x2 => ?_
  have er : List.replicate 40 (Value.int .i64 0) = (List.replicate (40 : Int).toNat (0 : Int)).map E := by simp
  rw [er] at h2
  have h2' : Stars H2 [baseO B, vecO E s (List.replicate (40 : Int).toNat 0), vecO Value.bool t (List.replicate (pgs 40 4).toNat false), rowO a12 ((List.replicate (40 : Int).toNat (0 : Int)).map E)] := h2
  have q40 : ∀ x : Int, 0 ≤ x % 40 ∧ x % 40 < 40 := fun x => ⟨Int.emod_nonneg x (by decide), Int.emod_lt_of_pos x (by decide)⟩
  refine mLoop_count l0.length (fun k st Hk => st = (k : Int) ∧ ∃ l d, l.length = 40 ∧ PgOk l.length 4 d ∧ Stars Hk [baseO B, vecO E s l, vecO Value.bool t d, rowO a12 (l.map E)]) ⟨rfl, _, _, by simp, ok1, h2'⟩ ?_
  rintro k st H3 again hk ⟨rfl, l, d, hl, ok, h3⟩ hag
  refine mIf_intro (fun c => ?_) (fun _ => ?_)
  · have hkl : k < l0.length := by simp at c; omega
    refine pair1 (h0.ext (hx h3)) (by omega) (by omega) fun x _ => round_spec (by decide) (by decide) (pair2 (h0.ext (hx h3)) (by omega) (by omega) fun x2 _ => round_spec (by decide) (by decide) ?_)
    obtain ⟨q0, q1⟩ := q40 x.1
    generalize x.1 % 40 = i at q0 q1
    generalize x2.2 % 3 = v
    refine idxA_arr q0 q1 (S_st h3 3 rfl (by rw [List.length_map]; omega) rfl fun H4 h4 => idxA_arr q0 q1 ?_)
    have e4 : (l.map E).set i.toNat (.int .i64 v) = (l.set i.toNat v).map E := by rw [List.map_set]
    rw [e4] at h4
    have h4' : Stars H4 [baseO B, vecO E s l, vecO Value.bool t d, rowO a12 ((l.set i.toNat v).map E)] := h4
    refine S_ld (enc := E) (x := v) h4' 3 rfl (arr_get (by rw [List.getElem?_set_self (by omega)])) ?_
    refine set_spec h4' (rx h4') 1 2 rfl rfl (by decide) ok fun H5 h5 => ?_
    rw [wrap_succ (by omega)]
    refine hag hkl _ _ ⟨rfl, setL ne l i v, _, by rw [setL_len]; exact hl, ok.set i v, ?_⟩
    rw [setL_in q0 (by omega)] at h5 ⊢
    exact h5
  clear hag h2' h2 er h1s ok1
  refine clean_spec h3 (rx h3) 2 rfl fun H4 h4 => ?_
  have ok4 := ok.clean
  have hd10 : d.length = 10 := by
    have := ok.d; rw [hl] at this
    have e : pgs (40 : Nat) 4 = 10 := by decide
    omega
  rw [hd10] at h4 ok4
  refine S_row h4 fun a47 H5 h5 x5 => ?_
  have er : List.replicate 10 (Value.bool false) = (List.replicate 10 false).map Value.bool := by simp
  rw [er] at h5
  have h5' : Stars H5 [baseO B, vecO E s l, vecO Value.bool t (List.replicate 10 false), rowO a12 (l.map E), rowO a47 ((List.replicate 10 false).map Value.bool)] := h5
  refine mLoop_count l1.length (fun k st Hk => st = (k : Int) ∧ ∃ l d, l.length = 40 ∧ d.length = 10 ∧ PgOk l.length 4 d ∧ Stars Hk [baseO B, vecO E s l, vecO Value.bool t d, rowO a12 (l.map E), rowO a47 (d.map Value.bool)]) ⟨rfl, _, _, hl, by simp, ok4, h5'⟩ ?_
  clear h5' h5 er h4 ok4 h3 ok hd10 hl d l hk
  clear again
  rintro k st H3 again hk ⟨rfl, l, d, hl, hd, ok, h3⟩ hag
  refine mIf_intro (fun c => ?_) (fun _ => ?_)
  · have hkl : k < l1.length := by simp at c; omega
    refine pair1 (h1.ext (hx h3)) (by omega) (by omega) fun x _ => pair2' (h1.ext (hx h3)) (by omega) (by omega) fun b x2 _ hb => round_spec (by decide) (by decide) ⟨hb, round_spec (by decide) (by decide) ?_⟩
    obtain ⟨q0, q1⟩ := q40 x.1
    generalize x.1 % 40 = i at q0 q1
    generalize x2.2 % 3 = v
    have hil : i.toNat < l.length := by omega
    obtain ⟨w, hw⟩ : ∃ w, l[i.toNat]? = some w := ⟨_, List.getElem?_eq_getElem hil⟩
    have hh := hit_in (v := v) q0 (by omega) hw
    refine idxA_arr q0 q1 (S_ld (enc := E) (x := w) h3 3 rfl (arr_get hw) ?_)
    have p1 := in_page (n := 40) (per := 4) (by decide) q0 (by omega)
    have e10 : pgs 40 4 = 10 := by decide
    have goal : ∀ H4, Stars H4 [baseO B, vecO E s l, vecO Value.bool t d, rowO a12 (l.map E), rowO a47 ((setD ne 4 l d i v).map Value.bool)] → mIdxA 40 a12 1 i fun a80 => mSt H4 a80 ([.int .i64 v]) fun H82 => paged_Paged_int_Set (some a) i v H82 fun y85 H84 => again (IntKind.wrap .i64 ((k : Int) + 1)) H84 := by
      intro H4 h4
      refine idxA_arr q0 q1 (S_st h4 3 rfl (by rw [List.length_map]; omega) rfl fun H5 h5 => ?_)
      have e4 : (l.map E).set i.toNat (.int .i64 v) = (l.set i.toNat v).map E := by rw [List.map_set]
      rw [e4] at h5
      have h5' : Stars H5 [baseO B, vecO E s l, vecO Value.bool t d, rowO a12 ((l.set i.toNat v).map E), rowO a47 ((setD ne 4 l d i v).map Value.bool)] := h5
      refine set_spec h5' (rx h5') 1 2 rfl rfl (by decide) ok fun H6 h6 => ?_
      rw [wrap_succ (by omega)]
      refine hag hkl _ _ ⟨rfl, setL ne l i v, _, by rw [setL_len]; exact hl, by rw [setD_len]; exact hd, ok.set i v, ?_⟩
      rw [setL_in q0 (by omega)] at h6 ⊢
      exact h6
    refine mJoin_intro (mIf_intro (fun c1 => ?_) (fun c1 => goal H3 ?_))
    · have e1 : IntKind.wrap .i64 (Int.tdiv i 4) = i / 4 := by rw [tdiv_div q0, wrap64_id (by omega) (by omega)]
      rw [e1]
      refine idxA_arr p1.1 (by omega) (S_st h3 4 rfl (by rw [List.length_map]; omega) rfl fun H4 h4 => goal H4 ?_)
      have e4 : (d.map Value.bool).set (i / 4).toNat (.bool true) = (setD ne 4 l d i v).map Value.bool := by rw [setD, if_pos (by rw [hh]; exact c1), List.map_set]
      rw [e4] at h4
      exact h4
    · have e4 : setD ne 4 l d i v = d := by rw [setD, if_neg (by rw [hh, c1]; decide)]
      rw [e4]; exact h3
  clear hag
  have h4 := h3.nilv (enc := E)
  refine mLoop_count 10 (fun j st Hk => st.2 = (j : Int) ∧ Stars Hk [baseO B, vecO E s l, vecO Value.bool t d, rowO a12 (l.map E), rowO a47 (d.map Value.bool), vecO E st.1 (dirtyTo d j)]) ⟨rfl, h4⟩ ?_
  rintro j ⟨q, st⟩ H4 again4 hj ⟨e, h4⟩ hag4
  simp only at e h4
  subst e
  refine mIf_intro (fun c => ?_) (fun c => ?_)
  · have hj10 : j < 10 := by simp at c; omega
    have hjl : j < d.length := by omega
    have hg : d[j]? = some d[j] := List.getElem?_eq_getElem hjl
    have hgd : d.getD j false = d[j] := by simp [List.getD, hg]
    have hlen := dirtyTo_len d j
    refine mJoin_intro (idxA_arr (by omega) (by omega) ?_)
    rw [Int.toNat_natCast]
    refine S_ld (enc := Value.bool) (x := d[j]) h4 4 rfl (arr_get hg) ?_
    simp only []
    rw [wrap_succ (by omega)]
    refine mIf_intro (fun c1 => ?_) (fun c1 => hag4 hj10 _ _ ⟨rfl, ?_⟩)
    · refine S_new1 (enc := E) h4 fun q1 H6 h6 x6 => S_app (ys := [(j : Int)]) h6 5 rfl (h6.list 6 rfl) ints_enc rfl (by simp; omega) fun r3 H7 h7 => hag4 hj10 _ _ ⟨rfl, ?_⟩
      rw [dirtyTo_some (hgd.trans c1)]
      exact h7.pick [0, 1, 2, 3, 4, 5] (by decide) rfl (by simp)
    · rw [dirtyTo_none (hgd.trans c1)]; exact h4
  have hj10 : j = d.length := by simp at c; omega
  subst hj10
  have h5 : Stars H4 [baseO B, vecO E s l, vecO Value.bool t d, rowO a12 (l.map E), rowO a47 (d.map Value.bool), vecO E q (dirtyL d)] := h4
  have hll := dirtyL_len d
  refine round_spec (by decide) (by decide) ?_
  have q0 := Int.emod_nonneg p2 (show (11 : Int) ≠ 0 by decide)
  have q1 := Int.emod_lt_of_pos p2 (show (0 : Int) < 11 by decide)
  generalize p2 % 11 = m at q0 q1
  refine dirty_spec (rx h5) (h5.list 2 rfl) ok.few fun qa H6 h6 => ?_
  have tk : (dirtyL d).take (100 : Int).toNat = dirtyL d := List.take_of_length_le (by show (dirtyL d).length ≤ 100; omega)
  rw [tk] at h6
  have l5 := h5.list (enc := E) 5 rfl
  refine ints_spec (h6.list 1 rfl) (l5.ext h6.base) (by omega) ?_
  rw [decide_eq_true rfl]
  refine mJoin_intro (mIf_pos rfl ?_)
  have hql := l5.lenI
  rw [hql]
  have em : (if ((dirtyL d).length : Int) < m then ((dirtyL d).length : Int) else m) = min m (dirtyL d).length := by split <;> omega
  rw [em]
  refine cut_list (l5.ext h6.base) (by omega) (by omega) (by omega) fun qc hc _ => ?_
  have ec : (List.take ((min m ((dirtyL d).length : Int)).toNat - (0 : Int).toNat) (List.drop (0 : Int).toNat (dirtyL d))) = (dirtyL d).take m.toNat := by
    rw [Int.toNat_zero, List.drop_zero, Nat.sub_zero]
    by_cases hm : m ≤ (dirtyL d).length
    · rw [show min m ((dirtyL d).length : Int) = m by omega]
    · rw [List.take_of_length_le (by omega), List.take_of_length_le (by omega)]
  rw [ec] at hc
  have h6' := h5.over h6
  refine dirty_spec (rx h6') (h6'.list 2 rfl) ok.few fun qd H7 h7 => ints_spec (h7.list 1 rfl) (hc.ext h7.base) (by rw [List.length_take]; omega) ?_
  rw [decide_eq_true rfl]
  have h7' := h6'.over h7
  refine mJoin_intro (mIf_pos rfl (dirty_spec (rx h7') (h7'.list 2 rfl) ok.few fun qe H8 h8 => ?_))
  rw [tk] at h8
  refine ints_spec (h8.list 1 rfl) ((h7'.list (enc := E) 5 rfl).ext h8.base) (by omega) ?_
  rw [decide_eq_true rfl]
  exact mJoin_intro (mIf_pos rfl (hawake H8 ((hx h7').trans h8.base)))
end Go.Proofs.Ytgnnfafidhfhfaa

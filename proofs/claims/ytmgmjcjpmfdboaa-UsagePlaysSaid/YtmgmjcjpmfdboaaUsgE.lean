/- THE LAW UsageLives, on formulas. -/
import Derived.Test.YtmgmjcjpmfdboaaUsgD
set_option linter.unusedVariables false
set_option linter.unusedSimpArgs false
namespace Go.Proofs.Ytmgmjcjpmfdboaa
open Go Go.Kx

theorem idxA_arr {a : Addr} {i : Int} {K : Addr → Prop} {n : Nat} (h0 : 0 ≤ i) (h1 : i < n) (hK : K (a.add i.toNat)) : mIdxA n a 1 i K := idxA_row h0 h1 (by rw [Nat.mul_one]; exact hK)
theorem arr_get {α : Type} {enc : α → Value} {l : List α} {k : Nat} {x : α} (h : l[k]? = some x) : (l.map enc)[k]? = some (enc x) := by simp [h]
def seL (k : Nat) : List Use := List.replicate k (2, 0) ++ List.replicate (8 - k) (0, 0)
theorem se_step : ∀ k, k < 8 → sealL (grabL (seL k) k) k = seL (k + 1) ∧ grabV (seL k) (List.replicate 8 0) k = List.replicate 8 0 := by decide
def se8 : List Use := List.replicate 8 (2, 0)
theorem se8_get {k : Nat} (h : k < 8) : se8[k]? = some (2, 0) := by rw [se8, List.getElem?_replicate, if_pos h]
theorem free_rel (v : List Int) : ∀ k, k ≤ 8 → freeN (relTo se8 v k) = (outTo se8 v k).length
  | 0, _ => rfl
  | k + 1, hk => by
    have ih := free_rel v k (by omega)
    cases h : idleAt se8 v k with
    | false =>
      have e : relTo se8 v (k + 1) = relTo se8 v k := by
        show (if idleAt se8 v k then _ else _) = _
        rw [h]; rfl
      rw [e, outTo_none h, ih]
    | true =>
      have hlt : k < (relTo se8 v k).length := by rw [relTo_len]; show k < 8; omega
      have e : relTo se8 v (k + 1) = (relTo se8 v k).set k (0, (se8.getD k (0, 0)).2) := by
        show (if idleAt se8 v k then _ else _) = _
        rw [h]; rfl
      have hg : (relTo se8 v k)[k] = (2, 0) := by
        have := relTo_at se8 v k
        rw [se8_get (by omega), List.getElem?_eq_getElem hlt] at this
        exact Option.some.inj this
      rw [e, outTo_some h, List.length_append, List.length_singleton, ← ih, freeN, List.countP_set hlt, hg]
      rfl
theorem rel_again (l : List Use) (v : List Int) : outL (relL l v) v = [] := by
  have key : ∀ k, outTo (relL l v) v k = [] := fun k => by
    induction k with
    | zero => rfl
    | succ k ih =>
      have : idleAt (relL l v) v k = false := by
        unfold idleAt
        rw [List.getD, relL, relTo_get]
        by_cases hl : k < l.length
        · by_cases hi : idleAt l v k = true
          · rw [if_pos ⟨hl, hi⟩, List.getElem?_eq_getElem hl]; rfl
          · rw [if_neg (by simp [hi])]
            simp only [idleAt, List.getD] at hi
            simpa using hi
        · rw [List.getElem?_eq_none (by omega)]
          simp
      rw [outTo_none this, ih]
  exact key _
theorem lives_law {H : PH} {s0 : Sl} {l0 : List Int} {p1 : Int} (h0 : Ints H s0 l0) : keelsonlaw12_UsageLives s0 p1 H (DoneD H) := by
  have hawake : ∀ H2, Ext H H2 → keelsonlaw12_awake H2 (DoneD H) := fun H2 x2 => awake_spec fun H3 x3 => ⟨rfl, x2.trans x3⟩
  have hl0 := h0.lenI
  refine eight_spec fun g H1 x1 hg => S_row (Stars.start H1) fun a5 H2 h2 x2 => st_row (vs := [.int .i64 4, .int .i64 8, .int .i64 24]) (h2.get 1 rfl) rfl rfl fun H3 r3 k3 => ?_
  have x3 : Ext H1 H3 := x2.keepB k3 (by
    have := h2.fresh (O := rowO a5 [.int .i64 0, .int .i64 0, .int .i64 0]) 0 rfl a5.block rfl
    exact this)
  have ok : CfgOk (4, 8, 24) := by simp [CfgOk]
  have hg3 := hg.ext x3
  refine tnew_froz (Stars.start H3) hg3 ok (ul := []) ⟨rfl, Nat.le_refl _, fun i x hi => by simp at hi⟩ (.inl rfl) (fun u hu => by simp at hu) fun B a s t H4 xB r h4 => ?_
  have h4' : Stars H4 [baseO B, vecNO encU 2 s (seL 0), vecO (Value.int .i64) t (List.replicate 8 0)] := h4
  have rx : ∀ {H' L}, Stars H' (baseO B :: L) → RowAt H' a (tabRow (some g) s t) := fun h => r.ext h.base
  have gx : ∀ {H' L}, Stars H' (baseO B :: L) → Gm H' (some g) (4, 8, 24) := fun h => hg3.ext (xB.trans h.base)
  have hx : ∀ {H' L}, Stars H' (baseO B :: L) → Ext H H' := fun h => (x1.trans x3).trans (xB.trans h.base)
  refine mJoin_intro (mIf_neg rfl (mJoin_intro (mIf_neg rfl (mIf_intro (fun _ => mJoin_intro (mIf_pos rfl (mJoin_intro (mIf_pos rfl (hawake H4 (hx h4)))))) (fun c0 => ?_)))))
  have k0 : l0.length ≤ 30 := by simp at c0; omega
  refine mLoop_count 8 (fun k st Hk => st = (k : Int) ∧ Stars Hk [baseO B, vecNO encU 2 s (seL k), vecO (Value.int .i64) t (List.replicate 8 0)]) ⟨rfl, h4'⟩ ?_
  rintro k st H5 again hk ⟨rfl, h5⟩ hag
  refine mIf_intro (fun c => ?_) (fun c => ?_)
  · have hk8 : k < 8 := by simp at c; omega
    obtain ⟨t1, t2⟩ := se_step k hk8
    have hl8 : (seL k).length = 8 := by simp [seL]; omega
    refine grab_spec h5 (rx h5) 1 2 rfl rfl (by decide) (by rw [hl8]; rfl) fun H6 h6 => ?_
    rw [t2] at h6
    have h6' : Stars H6 [baseO B, vecNO encU 2 s (grabL (seL k) k), vecO (Value.int .i64) t (List.replicate 8 0)] := h6
    refine seal_spec h6' (rx h6') 1 rfl fun H7 h7 => ?_
    rw [t1] at h7
    rw [wrap_succ (by omega)]
    exact hag hk8 _ _ ⟨rfl, h7⟩
  have hk8 : k = 8 := by simp at c; omega
  subst hk8
  clear hag again hk c h4 h4'
  refine S_row h5 fun a43 H6 h6 x6 => ?_
  have h6' : Stars H6 [baseO B, vecNO encU 2 s se8, vecO (Value.int .i64) t (List.replicate 8 0), rowO a43 ((List.replicate 8 (0 : Int)).map (Value.int .i64))] := h6
  have eb : base (4, 8, 24) = 10 := by decide
  have ea : all (4, 8, 24) = 202 := by decide
  refine mLoop_count l0.length (fun k st Hk => st = (k : Int) ∧ ∃ (v : List Int), v.length = 8 ∧ (∀ x : Int, x ∈ v → 0 ≤ x ∧ x ≤ (k : Int)) ∧ Stars Hk [baseO B, vecNO encU 2 s se8, vecO (Value.int .i64) t v, rowO a43 (v.map (Value.int .i64))]) ⟨rfl, _, rfl, fun x hx => by have := List.eq_of_mem_replicate hx; omega, h6'⟩ ?_
  clear h6' h6
  rintro k st H7 again hk ⟨rfl, v, hv, hvr, h7⟩ hag
  refine mIf_intro (fun c => ?_) (fun _ => ?_)
  · have hkl : k < l0.length := by simp at c; omega
    refine idx_ld (h0.ext (hx h7)) (by omega) (by omega) fun x _ => round_spec (by decide) (by decide) ⟨by omega, ?_⟩
    have q0 := Int.emod_nonneg x (show (192 : Int) ≠ 0 by decide)
    have q1 := Int.emod_lt_of_pos x (show (0 : Int) < 192 by decide)
    generalize x % 192 = y at q0 q1
    refine mJoin_cut (fun b Hk => (b = 1 ∨ b = -1) ∧ Hk = H7) ?_ fun k' hk' => mIf_intro (fun _ => hk' _ _ ⟨.inr rfl, rfl⟩) (fun _ => hk' _ _ ⟨.inl rfl, rfl⟩)
    rintro b _ ⟨hb, rfl⟩
    refine seg_spec (gx h7) ok fun H8 x8 => ?_
    have h8 := h7.ext x8
    rw [if_pos (by decide), eb, wrap64_id (by show -9223372036854775808 ≤ 10 + 0 * 24 + y; omega) (by show 10 + 0 * 24 + y < 9223372036854775808; omega)]
    refine tadd_spec h8 (rx h8) (gx h8) ok 2 rfl (by rw [hv]; rfl) (fun x hx => by have := hvr x hx; omega) (by omega) fun H9 h9 => ?_
    have hin : base (4, 8, 24) ≤ 10 + 0 * 24 + y ∧ 10 + 0 * 24 + y < all (4, 8, 24) := by rw [eb, ea]; omega
    rw [decide_eq_true hin]
    refine mIf_neg rfl ?_
    have sq : (10 + 0 * 24 + y - base (4, 8, 24)) / 24 = y / 24 := by rw [eb]; congr 1; omega
    have s0 : 0 ≤ y / 24 := Int.ediv_nonneg q0 (by decide)
    have s1 : y / 24 < 8 := by omega
    have hlt : (y / 24).toNat < v.length := by omega
    obtain ⟨w, hw⟩ : ∃ w, v[(y / 24).toNat]? = some w := ⟨_, List.getElem?_eq_getElem hlt⟩
    obtain ⟨w0, w1⟩ := hvr w (List.mem_of_getElem? hw)
    have eV : addV (4, 8, 24) v (10 + 0 * 24 + y) b = v.set (y / 24).toNat (max (w + b) 0) := by
      rw [addV, if_pos hin]
      show v.set ((10 + 0 * 24 + y - base (4, 8, 24)) / 24).toNat (addX (getZ 0 v ((10 + 0 * 24 + y - base (4, 8, 24)) / 24)) b) = _
      rw [sq, getZ_in s0 hw, addX, if_neg (by omega)]
    rw [eV] at h9
    have h9' : Stars H9 [baseO B, vecNO encU 2 s se8, vecO (Value.int .i64) t (v.set (y / 24).toNat (max (w + b) 0)), rowO a43 (v.map (Value.int .i64))] := h9
    have e24 : IntKind.wrap .i64 (Int.tdiv y 24) = y / 24 := by rw [Int.tdiv_eq_ediv_of_nonneg q0, wrap64_id (by omega) (by omega)]
    rw [e24]
    refine idxA_arr s0 s1 (S_ld (enc := Value.int .i64) (x := w) h9' 3 rfl (arr_get hw) (idxA_arr s0 s1 ?_))
    rw [wrap64_id (by omega) (by omega)]
    have em : (if w + b < 0 then 0 else w + b) = max (w + b) 0 := by split <;> omega
    rw [em]
    refine S_st h9' 3 rfl (by rw [List.length_map]; exact hlt) rfl fun H10 h10 => ?_
    rw [wrap_succ (by omega)]
    refine hag hkl _ _ ⟨rfl, v.set (y / 24).toNat (max (w + b) 0), by rw [List.length_set]; exact hv, fun x hx => ?_, ?_⟩
    rotate_left
    · rw [List.map_set]; exact h10
    · rcases List.mem_or_eq_of_mem_set hx with h | h
      · have := hvr x h; omega
      · subst h; omega
  clear hag again
  have h8 := h7.nilv (enc := Value.int .i64)
  have hs7 : VecN encU 2 H7 s se8 := h7.get 1 rfl
  refine mLoop_count 8 (fun j st Hk => st.2 = (j : Int) ∧ Stars Hk [baseO B, vecNO encU 2 s se8, vecO (Value.int .i64) t v, rowO a43 (v.map (Value.int .i64)), vecO (Value.int .i64) st.1 (outTo se8 v j)]) ⟨rfl, h8⟩ ?_
  clear h8 h7 hs7 H7
  rintro j ⟨q, st⟩ H7 again hj ⟨e, h7⟩ hag
  simp only at e h7
  subst e
  have hs7 : VecN encU 2 H7 s se8 := h7.get 1 rfl
  refine mIf_intro (fun c => ?_) (fun c => ?_)
  · have hj8 : j < 8 := by simp at c; omega
    obtain ⟨w, hw⟩ : ∃ w, v[j]? = some w := ⟨_, List.getElem?_eq_getElem (by omega)⟩
    have hcell : cellAt H7 (a43.add j) = some (.int .i64 w) := (h7.get 3 rfl : RowAt H7 a43 (v.map (Value.int .i64))).cell (arr_get hw)
    refine mJoin_intro (idxA_arr (by omega) (by omega) ?_)
    rw [Int.toNat_natCast]
    refine ⟨w, hcell, live_spec (rx h7) hs7.lenI (h7.list 2 rfl) hv ⟨hcell, mJoin_intro ?_⟩⟩
    have eg : getZ 0 v (j : Int) = w := getZ_in (by omega) (by rw [Int.toNat_natCast]; exact hw)
    rw [eg]
    refine mIf_neg (by simp) (state_spec (rx h7) (hs7.listN lenU) ?_)
    have es : (getZ (0, 0) se8 (j : Int)).1 = 2 := by rw [getZ_in (x := (2, 0)) (by omega) (by rw [Int.toNat_natCast]; exact se8_get hj8)]
    rw [es]
    refine mIf_neg rfl (idxA_arr (by omega) (by omega) ?_)
    rw [Int.toNat_natCast]
    have hid : idleAt se8 v j = (w == 0) := by simp [idleAt, List.getD, se8_get hj8, hw]
    have hol := outTo_len se8 v j
    refine ⟨w, hcell, ?_⟩
    simp only []
    rw [wrap_succ (k := j) (by omega)]
    refine mIf_intro (fun c1 => ?_) (fun c1 => hag hj8 _ _ ⟨rfl, ?_⟩)
    · refine S_new1 (enc := Value.int .i64) h7 fun q1 H8 h8 x8 => S_app (ys := [(j : Int)]) h8 4 rfl (h8.list 5 rfl) cvI rfl (by simp; omega) fun r3 H9 h9 => hag hj8 _ _ ⟨rfl, ?_⟩
      rw [outTo_some (hid.trans c1)]
      exact h9.pick [0, 1, 2, 3, 4] (by decide) rfl (by simp)
    · rw [outTo_none (hid.trans c1)]; exact h7
  have hj8 : j = 8 := by simp at c; omega
  subst hj8
  clear hag again
  have hv8 : v.length = se8.length := hv
  refine release_spec h7 r 0 1 rfl rfl (by decide) hv8 (by decide) fun q2 H8 h8 => ?_
  have h8' : Stars H8 [baseO B, vecNO encU 2 s (relL se8 v), vecO (Value.int .i64) t v, rowO a43 (v.map (Value.int .i64)), vecO (Value.int .i64) q (outTo se8 v 8), vecO (Value.int .i64) q2 (outL se8 v)] := h8
  have hol := outTo_len se8 v 8
  have ho : outL se8 v = outTo se8 v 8 := rfl
  refine ints_spec (h8'.list 5 rfl) (h8'.list 4 rfl) (by rw [ho]; omega) ?_
  rw [decide_eq_true ho]
  have hs8 : VecN encU 2 H8 s (relL se8 v) := h8'.get 1 rfl
  have hrl : (relL se8 v).length = 8 := relTo_len se8 v 8
  have hlq := (h8'.list (enc := Value.int .i64) 4 rfl).lenI
  refine mJoin_intro (mIf_pos rfl (free_spec (rx h8') (hs8.listN lenU) (by rw [hrl]; decide) fun H9 x9 => ?_))
  have h9 := h8'.ext x9
  have ef : freeN (relL se8 v) = (outTo se8 v 8).length := free_rel v 8 (Nat.le_refl 8)
  rw [hlq, ef]
  refine mJoin_intro (mIf_pos (by simp) (release_spec h9 r 0 1 rfl rfl (by decide) (by rw [hrl]; exact hv) (by rw [hrl]; decide) fun q3 H10 h10 => ?_))
  have h10' : Stars H10 [baseO B, vecNO encU 2 s (relL (relL se8 v) v), vecO (Value.int .i64) t v, rowO a43 (v.map (Value.int .i64)), vecO (Value.int .i64) q (outTo se8 v 8), vecO (Value.int .i64) q2 (outL se8 v), vecO (Value.int .i64) q3 (outL (relL se8 v) v)] := h10
  have l3 := (h10'.list (enc := Value.int .i64) 6 rfl).lenI
  rw [rel_again] at l3
  rw [l3]
  refine mJoin_intro (mIf_pos rfl (seg_spec (gx h10') ok fun H11 x11 => ?_))
  have h11 := h10'.ext x11
  rw [if_pos (by decide), eb, wrap64_id (by decide) (by decide)]
  have hvr' : ∀ x, x ∈ v → 0 ≤ x ∧ x ≤ 2147483647 := fun x hx => by have := hvr x hx; omega
  refine tadd_spec h11 (rx h11) (gx h11) ok 2 rfl (by rw [hv]; rfl) hvr' (by decide) fun H12 h12 => ?_
  have n12 : ¬ (base (4, 8, 24) ≤ (10 + 0 * (4, 8, 24).2.2 - 1 : Int) ∧ (10 + 0 * (4, 8, 24).2.2 - 1 : Int) < all (4, 8, 24)) := by decide
  rw [addV, if_neg n12] at h12
  rw [decide_eq_false n12]
  have h12' : Stars H12 [baseO B, vecNO encU 2 s (relL (relL se8 v) v), vecO (Value.int .i64) t v, rowO a43 (v.map (Value.int .i64)), vecO (Value.int .i64) q (outTo se8 v 8), vecO (Value.int .i64) q2 (outL se8 v), vecO (Value.int .i64) q3 (outL (relL se8 v) v)] := h12
  refine mJoin_intro (mIf_pos rfl (all_spec (gx h12') ok fun H13 x13 => ?_))
  have h13 := h12'.ext x13
  refine tadd_spec h13 (rx h13) (gx h13) ok 2 rfl (by rw [hv]; rfl) hvr' (by decide) fun H14 h14 => ?_
  have n14 : ¬ (base (4, 8, 24) ≤ all (4, 8, 24) ∧ all (4, 8, 24) < all (4, 8, 24)) := fun h => absurd h.2 (by decide)
  rw [decide_eq_false n14]
  refine mJoin_intro (mIf_pos rfl (hawake H14 ?_))
  have h14' : Stars H14 (baseO B :: _) := h14
  exact hx h14'
end Go.Proofs.Ytmgmjcjpmfdboaa

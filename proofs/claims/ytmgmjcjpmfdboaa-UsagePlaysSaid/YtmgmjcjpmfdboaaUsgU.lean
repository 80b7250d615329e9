/- THE LAW UsagePlays, on formulas: the end. -/
import Derived.Test.YtmgmjcjpmfdboaaUsgT
set_option linter.unusedVariables false
set_option linter.unusedSimpArgs false
namespace Go.Proofs.Ytmgmjcjpmfdboaa
open Go Go.Kx

theorem r_froz {H B : PH} {L : List Ob} {c : Cfg} {x : Sl} {ul : List Use} {Q : Option Addr → PH → Prop} (h : Stars H (baseO B :: L)) (hc : CfgOk c) (hx : ListN encU 2 H x ul) (h1 : ul = [] ∨ (ul.length : Int) = c.2.1) (h2 : ∀ u, u ∈ ul → okU u = true)
    (hQ : ∀ B' a s t H', Ext B B' → RowAt B' a (rowR c s t) → Stars H' (baseO B' :: (L ++ [vecNO encU 2 s (iniL c.2.1.toNat ul), vecO (Value.int .i64) t (List.replicate c.2.1.toNat 0)])) → Q (some a) H') : keelsonref11_NewTable c x H Q := by
  have hul : ul.length < 2 ^ 40 := by
    have := hc.2.2.2.1
    rcases h1 with h | h
    · subst h; decide
    · omega
  refine r_new hc hx hul (fun hb => absurd ⟨h1, h2⟩ hb) fun _ _ a s t H1 k1 => ?_
  have k2 := h.over k1
  have k3 : Stars H1 (baseO B :: (L ++ [vecNO encU 2 s (iniL c.2.1.toNat ul), vecO (Value.int .i64) t (List.replicate c.2.1.toNat 0)]) ++ [rowO a (rowR c s t)]) := by simpa using k2
  obtain ⟨B', xb, rb, k4⟩ := k3.freeze
  exact hQ B' a s t H1 xb rb k4

theorem plays_law {H : PH} {p0 : Int × Int × Int} {s1 s2 : Sl} {ul : List Use} {l2 : List Act3} (h1 : ListN encU 2 H s1 ul) (h2 : ListN enc3 3 H s2 l2) (hl2 : ∀ x, x ∈ l2 → x.2.1 ≤ 9223372036854775807 ∧ -9223372036854775808 ≤ x.2.2) : keelsonlaw12_UsagePlays p0 s1 s2 H (DoneD H) := by
  have hawake : ∀ H2, Ext H H2 → keelsonlaw12_awake H2 (DoneD H) := fun H2 x2 => awake_spec fun H3 x3 => ⟨rfl, x2.trans x3⟩
  have hul := h1.lenI; have hll := h2.lenI
  refine new_row fun a1 H1 x1 r1 _ => mJoin_intro (mIf_intro (fun _ => mIf_pos rfl (hawake H1 x1)) (fun c0 => mIf_intro (fun _ => hawake H1 x1) (fun c1 => ?_)))
  have k1 : ul.length ≤ 60 := by simp at c0; omega
  have k2 : l2.length ≤ 60 := by simp at c1; omega
  refine ldr_row (x := p0) r1 rfl ?_
  refine config_spec fun H2 x2 => new_row fun a16 H3 x3 r3 f3 => st_row (vs := cfgL (cfgOf p0)) r3 rfl rfl fun H4 r4 kp4 => ldr_row (x := cfgOf p0) r4 rfl (new_yes2 (cfgOf_ok p0) fun g H5 x5 rg _ => ?_)
  have x05 : Ext H H5 := ((x1.trans x2).trans (x3.keepB kp4 f3)).trans x5
  have ok := cfgOf_ok p0
  have r5 := r4.ext x5
  generalize cfgOf p0 = c at ok r5 rg
  have n1 := ok.2.2.1; have n2 := ok.2.2.2.1
  obtain ⟨N, hN⟩ := Int.eq_ofNat_of_zero_le (show 0 ≤ c.2.1 by omega)
  refine mJoin_intro (mIf_neg rfl (mIf_neg rfl ?_))
  by_cases hP : (ul = [] ∨ (ul.length : Int) = c.2.1) ∧ ∀ u, u ∈ ul → okU u = true
  rotate_left
  · refine tnew_spec ⟨g, rfl, rg⟩ ok (h1.ext x05) (by omega) (fun _ H6 x6 => ?_) fun p q => absurd ⟨p, q⟩ hP
    refine ldr_row (x := c) (r5.ext x6) rfl (r_new ok (h1.ext (x05.trans x6)) (by omega) (fun _ H7 x7 => ?_) fun p q => absurd ⟨p, q⟩ hP)
    exact mIf_pos rfl (mJoin_intro (mIf_pos rfl (hawake H7 ((x05.trans x6).trans x7))))
  obtain ⟨hP1, hP2⟩ := hP
  refine tnew_froz (Stars.start H5) ⟨g, rfl, rg⟩ ok (h1.ext x05) hP1 hP2 fun B1 a s t H6 xB1 r h6 => ?_
  refine ldr_row (x := c) (r5.ext (xB1.trans h6.base)) rfl (r_froz h6 ok (h1.ext (x05.trans (xB1.trans h6.base))) hP1 hP2 fun B b s' t' H7 xB2 rr h7 => ?_)
  have xB : Ext H B := x05.trans (xB1.trans xB2)
  have rx : ∀ {H' L}, Stars H' (baseO B :: L) → RowAt H' a (tabRow (some g) s t) := fun h => (r.ext xB2).ext h.base
  have rrx : ∀ {H' L}, Stars H' (baseO B :: L) → RowAt H' b (rowR c s' t') := fun h => rr.ext h.base
  have gx : ∀ {H' L}, Stars H' (baseO B :: L) → Gm H' (some g) c := fun h => ⟨g, rfl, rg.ext ((xB1.trans xB2).trans h.base)⟩
  have hx : ∀ {H' L}, Stars H' (baseO B :: L) → Ext H H' := fun h => xB.trans h.base
  have hil : (iniL c.2.1.toNat ul).length = N := by
    rw [iniL, List.length_append, List.length_drop, List.length_replicate]
    rcases hP1 with h | h
    · subst h; simp; omega
    · omega
  have hvl : (List.replicate c.2.1.toNat (0 : Int)).length = N := by rw [List.length_replicate]; omega
  have h7' : Stars H7 [baseO B, vecNO encU 2 s (iniL c.2.1.toNat ul), vecO (Value.int .i64) t (List.replicate c.2.1.toNat 0), vecNO encU 2 s' (iniL c.2.1.toNat ul), vecO (Value.int .i64) t' (List.replicate c.2.1.toNat 0)] := h7
  have same : ∀ {Hk : PH} {l : List Use} {v : List Int} {Q : Bool → PH → Prop}, l.length = N → v.length = N → Stars Hk [baseO B, vecNO encU 2 s l, vecO (Value.int .i64) t v, vecNO encU 2 s' l, vecO (Value.int .i64) t' v] → (∀ H', Ext Hk H' → Q true H') → keelsonlaw12_same (some a) (some b) Hk Q := by
    intro Hk l v Q hl hv hk hQ
    have v1 : VecN encU 2 Hk s l := hk.get 1 rfl
    have v3 : VecN encU 2 Hk s' l := hk.get 3 rfl
    exact same_spec (rx hk) (rrx hk) (v1.listN lenU) (hk.list 2 rfl) (v3.listN lenU) (hk.list 4 rfl) (by omega) (by omega) hQ
  refine mIf_neg rfl (mJoin_intro (mIf_neg rfl (same hil hvl h7' fun H8 x8 => mIf_neg rfl ?_)))
  refine mLoop_count l2.length (fun k st Hk => st = (k : Int) ∧ ∃ (l : List Use) (v : List Int), l.length = N ∧ v.length = N ∧ (∀ x : Int, x ∈ v → 0 ≤ x ∧ x ≤ 2147483647) ∧ Stars Hk [baseO B, vecNO encU 2 s l, vecO (Value.int .i64) t v, vecNO encU 2 s' l, vecO (Value.int .i64) t' v])
    ⟨rfl, _, _, hil, hvl, fun x hx => by have := List.eq_of_mem_replicate hx; omega, h7'.ext x8⟩ ?_
  clear same h7' h7 h6 hil hvl
  rintro k st H9 again hk ⟨rfl, l, v, hl, hv, hvr, h9⟩ hag
  refine mIf_intro (fun c2 => ?_) (fun _ => hawake H9 (hx h9))
  have hkl : k < l2.length := by simp at c2; omega
  refine idxL (h2.ext (hx h9)) (by simp) (by simpa using hkl) fun a57 x hx0 hc => ?_
  rw [Int.toNat_natCast] at hx0
  obtain ⟨hat, hby⟩ := hl2 x (List.mem_of_getElem? hx0)
  refine ⟨x, hc, S_row h9 fun a61 H10 h10 x10 => st_row (vs := enc3 x) (h10.get 5 rfl) rfl rfl fun H11 r11 k11 => ?_⟩
  have h11 : Stars H11 [baseO B, vecNO encU 2 s l, vecO (Value.int .i64) t v, vecNO encU 2 s' l, vecO (Value.int .i64) t' v, rowO a61 (enc3 x)] := h10.turn (O' := rowO a61 (enc3 x)) 5 rfl r11 (fun c hc => .inl hc) fun c o hc hn => k11 c o hc hn
  clear r11 k11 hc h10 x10 hx0
  obtain ⟨kind, at', by'⟩ := x
  simp only at hat hby
  refine S_ld (enc := Value.int .i64) (x := kind) h11 5 rfl rfl ?_
  refine mJoin_cut (fun _ Hk => ∃ (l : List Use) (v : List Int), l.length = N ∧ v.length = N ∧ (∀ x : Int, x ∈ v → 0 ≤ x ∧ x ≤ 2147483647) ∧ Stars Hk [baseO B, vecNO encU 2 s l, vecO (Value.int .i64) t v, vecNO encU 2 s' l, vecO (Value.int .i64) t' v]) ?_ fun k' hk' => ?_
  · rintro _ Hk ⟨l, v, hl, hv, hvr, h⟩
    have v1 : VecN encU 2 Hk s l := h.get 1 rfl
    have v3 : VecN encU 2 Hk s' l := h.get 3 rfl
    refine same_spec (rx h) (rrx h) (v1.listN lenU) (h.list 2 rfl) (v3.listN lenU) (h.list 4 rfl) (by omega) (by omega) fun H' x' => mIf_neg rfl ?_
    rw [wrap_succ (by omega)]
    exact hag hkl _ _ ⟨rfl, l, v, hl, hv, hvr, h.ext x'⟩
  clear hag
  have hvl' : (v.length : Int) = c.2.1 := by omega
  have e5 : enc3 (kind, at', by') = [.int .i64 kind, .int .i64 at', .int .i64 by'] := rfl
  have back : ∀ {H'} {l : List Use} {v : List Int}, l.length = N → v.length = N → (∀ x : Int, x ∈ v → 0 ≤ x ∧ x ≤ 2147483647) → Stars H' [baseO B, vecNO encU 2 s l, vecO (Value.int .i64) t v, vecNO encU 2 s' l, vecO (Value.int .i64) t' v, rowO a61 (enc3 (kind, at', by'))] → k' () H' := fun {H' l v} e1 e2 e3 h => hk' _ _ ⟨l, v, e1, e2, e3, h.pick [0, 1, 2, 3, 4] (by decide) rfl (by simp)⟩
  refine mIf_intro (fun _ => ?_) (fun _ => mIf_intro (fun _ => ?_) (fun _ => mIf_intro (fun _ => ?_) (fun _ => mIf_intro (fun _ => ?_) (fun _ => mIf_intro (fun _ => ?_) (fun _ => mIf_intro (fun _ => ?_) (fun _ => back hl hv hvr h11))))))
  · -- Add
    refine S_ld (enc := Value.int .i64) (x := at') h11 5 rfl rfl (S_ld (enc := Value.int .i64) (x := by') h11 5 rfl rfl (S_ld (enc := Value.int .i64) (x := at') h11 5 rfl rfl (S_ld (enc := Value.int .i64) (x := by') h11 5 rfl rfl ?_)))
    refine tadd_spec h11 (rx h11) (gx h11) ok 2 rfl hvl' hvr hby fun H12 h12 => ?_
    have h12' : Stars H12 [baseO B, vecNO encU 2 s l, vecO (Value.int .i64) t (addV c v at' by'), vecNO encU 2 s' l, vecO (Value.int .i64) t' v, rowO a61 (enc3 (kind, at', by'))] := h12
    refine same_row (h12'.get 5 rfl : RowAt H12 a61 (enc3 (kind, at', by'))) rfl (same_row (h12'.get 5 rfl : RowAt H12 a61 (enc3 (kind, at', by'))) rfl ?_)
    refine r_add h12' (rrx h12') ok hat 4 rfl hvl' hvr fun H13 h13 => mIf_neg (by simp) (back hl (by rw [addV_len]; exact hv) (addV_ok hvr) h13)
  · -- Touch
    refine S_ld (enc := Value.int .i64) (x := at') h11 5 rfl rfl (S_ld (enc := Value.int .i64) (x := by') h11 5 rfl rfl (touch_spec h11 (rx h11) 1 rfl fun H12 h12 => ?_))
    have h12' : Stars H12 [baseO B, vecNO encU 2 s (touchL l at' by'), vecO (Value.int .i64) t v, vecNO encU 2 s' l, vecO (Value.int .i64) t' v, rowO a61 (enc3 (kind, at', by'))] := h12
    refine S_ld (enc := Value.int .i64) (x := at') h12' 5 rfl rfl (S_ld (enc := Value.int .i64) (x := by') h12' 5 rfl rfl (r_touch h12' (rrx h12') 3 rfl (by omega) fun H13 h13 => back (by rw [touchL_len]; exact hl) hv hvr h13))
  · -- Take
    refine S_ld (enc := Value.int .i64) (x := by') h11 5 rfl rfl (take_spec h11 (rx h11) 1 2 rfl rfl (by decide) (by omega) (by omega) fun H12 h12 => ?_)
    generalize hsp : (iand .i64 by' 1 == 1) = sp at h12
    have h12' : Stars H12 [baseO B, vecNO encU 2 s (grabL l (takeAt l sp)), vecO (Value.int .i64) t (grabV l v (takeAt l sp)), vecNO encU 2 s' l, vecO (Value.int .i64) t' v, rowO a61 (enc3 (kind, at', by'))] := h12
    have v3 : VecN encU 2 H12 s' l := h12'.get 3 rfl
    refine S_ld (enc := Value.int .i64) (x := by') h12' 5 rfl rfl ?_
    rw [hsp]
    refine r_next (rrx h12') (v3.listN lenU) (by omega) (r_grab h12' (rrx h12') 3 4 (fun H' l' hy => rrx (show Stars H' (baseO B :: _) from hy)) rfl rfl (by decide) (by omega) (by omega) fun H13 h13 => ?_)
    · have hto := take_ok l sp
      have fin := back (by rw [grabL_len]; exact hl) (by rw [grabV_len]; exact hv) (grabV_ok hvr) h13
      rw [← hto]
      refine mJoin_intro (mIf_neg (by simp) (mJoin_intro ?_))
      have rest : mJoin (fun (s120 : Bool) (H122 : PH) => mIf s120 (DoneD H false H122) (k' () H122)) fun j121 => mIf false (j121 true H13) (mJoin (fun (s126 : Bool) (H128 : PH) => j121 s126 H128) fun j127 => mIf (!grabOk l (takeAt l sp)) (j127 ((if grabOk l (takeAt l sp) then takeAt l sp else 0) != 0) H13) (j127 false H13)) := by
        refine mJoin_intro (mIf_neg rfl (mJoin_intro (mIf_intro (fun cc => ?_) (fun _ => mIf_neg rfl fin))))
        have : grabOk l (takeAt l sp) = false := by simpa using cc
        rw [this]
        exact mIf_neg rfl fin
      refine mIf_intro (fun cc => ?_) (fun _ => rest)
      rw [cc] at rest ⊢
      simp only [if_true] at rest ⊢
      rw [show (takeAt l sp != takeAt l sp) = false by simp]
      exact rest
  · -- Grab
    refine S_ld (enc := Value.int .i64) (x := at') h11 5 rfl rfl (S_ld (enc := Value.int .i64) (x := at') h11 5 rfl rfl (grab_spec h11 (rx h11) 1 2 rfl rfl (by decide) (by omega) fun H12 h12 => ?_))
    have h12' : Stars H12 [baseO B, vecNO encU 2 s (grabL l at'), vecO (Value.int .i64) t (grabV l v at'), vecNO encU 2 s' l, vecO (Value.int .i64) t' v, rowO a61 (enc3 (kind, at', by'))] := h12
    refine same_row (h12'.get 5 rfl : RowAt H12 a61 (enc3 (kind, at', by'))) rfl (r_grab h12' (rrx h12') 3 4 (fun H' l' hy => rrx (show Stars H' (baseO B :: _) from hy)) rfl rfl (by decide) (by omega) (by omega) fun H13 h13 => mIf_neg (by simp) (back (by rw [grabL_len]; exact hl) (by rw [grabV_len]; exact hv) (grabV_ok hvr) h13))
  · -- Seal
    refine S_ld (enc := Value.int .i64) (x := at') h11 5 rfl rfl (seal_spec h11 (rx h11) 1 rfl fun H12 h12 => ?_)
    have h12' : Stars H12 [baseO B, vecNO encU 2 s (sealL l at'), vecO (Value.int .i64) t v, vecNO encU 2 s' l, vecO (Value.int .i64) t' v, rowO a61 (enc3 (kind, at', by'))] := h12
    refine S_ld (enc := Value.int .i64) (x := at') h12' 5 rfl rfl (r_seal h12' (rrx h12') 3 rfl (by omega) fun H13 h13 => back (by rw [sealL_len]; exact hl) hv hvr h13)
  · -- Release
    refine release_spec h11 (r.ext xB2) 0 1 rfl rfl (by decide) (by omega) (by omega) fun q12 H12 h12 => ?_
    have h12' : Stars H12 [baseO B, vecNO encU 2 s (relL l v), vecO (Value.int .i64) t v, vecNO encU 2 s' l, vecO (Value.int .i64) t' v, rowO a61 (enc3 (kind, at', by')), vecO (Value.int .i64) q12 (outL l v)] := h12
    refine r_release h12' rr 2 3 rfl rfl (by decide) (by omega) (by omega) fun q13 H13 h13 => ?_
    have h13' : Stars H13 [baseO B, vecNO encU 2 s (relL l v), vecO (Value.int .i64) t v, vecNO encU 2 s' (relL l v), vecO (Value.int .i64) t' v, rowO a61 (enc3 (kind, at', by')), vecO (Value.int .i64) q12 (outL l v), vecO (Value.int .i64) q13 (outL l v)] := h13
    have ho := outTo_len l v l.length
    refine ints_spec (h13'.list 6 rfl) (h13'.list 7 rfl) (by show (outTo l v l.length).length < 2 ^ 60; omega) ?_
    rw [decide_eq_true rfl]
    exact mIf_neg rfl (back (by rw [relL, relTo_len]; exact hl) hv hvr (h13'.pick [0, 1, 2, 3, 4, 5] (by decide) rfl (by simp)))
end Go.Proofs.Ytmgmjcjpmfdboaa

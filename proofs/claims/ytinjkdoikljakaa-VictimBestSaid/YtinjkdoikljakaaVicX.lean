/- THE LAW VictimBest, on formulas. -/
import Derived.Test.YtinjkdoikljakaaVicS
set_option linter.unusedVariables false
set_option linter.unusedSimpArgs false
namespace Go.Proofs.Ytinjkdoikljakaa
open Go Go.Kx

theorem sealL_len (l : List Use) (k : Int) : (sealL l k).length = l.length := by unfold sealL; split <;> simp [setS_len]
theorem touchL_len (l : List Use) (k st : Int) : (touchL l k st).length = l.length := by unfold touchL; split <;> simp [setT_len]
theorem grabL_len (l : List Use) (k : Int) : (grabL l k).length = l.length := by unfold grabL; split <;> simp [setS_len]
theorem grabV_len (l : List Use) (v : List Int) (k : Int) : (grabV l v k).length = v.length := by unfold grabV; split <;> simp
theorem grabV_ok {l : List Use} {v : List Int} {k : Int} (h : ∀ x, x ∈ v → 0 ≤ x ∧ x ≤ 2147483647) : ∀ x, x ∈ grabV l v k → 0 ≤ x ∧ x ≤ 2147483647 := by
  intro x hx
  unfold grabV at hx
  split at hx
  · rcases List.mem_or_eq_of_mem_set hx with h1 | h1
    · exact h x h1
    · subst h1; decide
  · exact h x hx
def StOk (now : Int) (l : List Use) : Prop := ∀ u : Use, u ∈ l → 0 ≤ u.2 ∧ u.2 ≤ now
theorem getZ_st {now : Int} {l : List Use} (h : StOk now l) (hn : 0 ≤ now) (k : Int) : 0 ≤ (getZ (0, 0) l k).2 ∧ (getZ (0, 0) l k).2 ≤ now := by
  unfold getZ
  split
  · cases hg : l[k.toNat]? with
    | none => simp [List.getD, hg, hn]
    | some u => simp [List.getD, hg]; exact h u (List.mem_of_getElem? hg)
  · exact ⟨Int.le_refl 0, hn⟩
theorem setS_st {now : Int} {l : List Use} (h : StOk now l) (hn : 0 ≤ now) (k st : Int) : StOk now (setS l k st) := fun u hu => by
  rcases List.mem_or_eq_of_mem_set hu with h1 | h1
  · exact h u h1
  · subst h1; exact getZ_st h hn k
theorem grabL_st {now : Int} {l : List Use} (h : StOk now l) (hn : 0 ≤ now) (k : Int) : StOk now (grabL l k) := by unfold grabL; split; exact setS_st h hn k 1; exact h
theorem sealL_st {now : Int} {l : List Use} (h : StOk now l) (hn : 0 ≤ now) (k : Int) : StOk now (sealL l k) := by unfold sealL; split; exact setS_st h hn k 2; exact h
theorem touchL_st {now st : Int} {l : List Use} (h : StOk now l) (h0 : 0 ≤ st) (h1 : st ≤ now) (k : Int) : StOk now (touchL l k st) := by
  unfold touchL
  split
  · intro u hu
    rcases List.mem_or_eq_of_mem_set hu with h2 | h2
    · exact h u h2
    · subst h2; exact ⟨h0, h1⟩
  · exact h

theorem best_law {H : PH} {p0 : Int × Int × Int} {s1 s2 : Sl} {l1 l2 : List Int} {p3 p4 : Int} (h1 : Ints H s1 l1) (h2 : Ints H s2 l2) : keelsonlaw19_VictimBest p0 s1 s2 p3 p4 H (DoneD H) := by
  have hawake : ∀ H2, Ext H H2 → keelsonlaw19_awake H2 (DoneD H) := fun H2 x2 => awake_spec fun H3 x3 => ⟨rfl, x2.trans x3⟩
  have hl1 := h1.lenI; have hl2 := h2.lenI
  refine new_row fun a1 H1 x1 r1 _ => ldr_row (x := p0) r1 rfl ?_
  refine config_spec fun H2 x2 => new_row fun a8 H3 x3 r3 f3 => st_row (vs := cfgL (cfgOf p0)) r3 rfl rfl fun H4 r4 kp4 => ldr_row (x := cfgOf p0) r4 rfl (new_yes2 (cfgOf_ok p0) fun g H5 x5 rg _ => ?_)
  have x05 : Ext H H5 := ((x1.trans x2).trans (x3.keepB kp4 f3)).trans x5
  have ok := cfgOf_ok p0
  have r5 := r4.ext x5
  generalize cfgOf p0 = c at ok r5 rg
  have n1 := ok.2.2.1; have n2 := ok.2.2.2.1; have c5 := ok.2.2.2.2.1; have c6 := ok.2.2.2.2.2
  obtain ⟨N, hN⟩ := Int.eq_ofNat_of_zero_le (show 0 ≤ c.2.1 by omega)
  have wake := mJoin_intro (k := fun (s35 : Bool) (H37 : PH) => mJoin (fun (s40 : Bool) (H42 : PH) => DoneD H s40 H42) fun j41 => mIf s35 (keelsonlaw19_awake H37 fun y45 H44 => j41 y45 H44) (j41 false H37)) (body := fun j36 => mIf ((0 : Int) == 0) (j36 (!(Option.isNone (some g))) H5) (j36 false H5)) (mIf_pos rfl (mJoin_intro (mIf_pos rfl (hawake H5 x05))))
  refine mJoin_intro (mIf_neg rfl (mJoin_intro (mIf_neg rfl (ld_row (x := c.2.1) r5 rfl ?_))))
  refine mJoin_intro (mIf_intro (fun _ => mIf_pos rfl wake) (fun k1 => ld_row (x := c.2.1) r5 rfl (mIf_intro (fun _ => wake) (fun k2 => ?_))))
  have k1' : N ≤ l1.length := by simp at k1; omega
  have k2' : N ≤ l2.length := by simp at k2; omega
  refine tnew_froz (Stars.start H5) ⟨g, rfl, rg⟩ ok (ul := []) ⟨rfl, Nat.le_refl _, fun i x hi => by simp at hi⟩ (.inl rfl) (fun u hu => by simp at hu) fun B a s t H6 xB r h6 => mIf_neg rfl ?_
  have h6' : Stars H6 [baseO B, vecNO encU 2 s (List.replicate N (0, 0)), vecO (Value.int .i64) t (List.replicate N 0)] := by
    rw [hN] at h6; simpa [iniL] using h6
  have rx : ∀ {H' L}, Stars H' (baseO B :: L) → RowAt H' a (tabRow (some g) s t) := fun h => r.ext h.base
  have gx : ∀ {H' L}, Stars H' (baseO B :: L) → Gm H' (some g) c := fun h => ⟨g, rfl, rg.ext (xB.trans h.base)⟩
  have cx : ∀ {H' L}, Stars H' (baseO B :: L) → RowAt H' a8 (cfgL c) := fun h => r5.ext (xB.trans h.base)
  have hx : ∀ {H' L}, Stars H' (baseO B :: L) → Ext H H' := fun h => x05.trans (xB.trans h.base)
  have nw0 := Int.emod_nonneg p4 (show (1048576 : Int) ≠ 0 by decide)
  have nw1 := Int.emod_lt_of_pos p4 (show (0 : Int) < 1048576 by decide)
  refine round_spec (by decide) (by decide) ?_
  generalize p4 % 1048576 = now at nw0 nw1
  refine mLoop_count N (fun i st Hk => st = (i : Int) ∧ ∃ (l : List Use) (v : List Int), l.length = N ∧ v.length = N ∧ (∀ x : Int, x ∈ v → 0 ≤ x ∧ x ≤ 2147483647) ∧ StOk now l ∧ Stars Hk [baseO B, vecNO encU 2 s l, vecO (Value.int .i64) t v])
    ⟨rfl, _, _, by simp, by simp, fun x hx => by have := List.eq_of_mem_replicate hx; omega, fun u hu => by have := List.eq_of_mem_replicate hu; subst this; exact ⟨Int.le_refl 0, nw0⟩, h6'⟩ ?_
  clear h6' h6
  rintro i st H7 again hi ⟨rfl, l, v, hl, hv, hvr, hst, h7⟩ hag
  refine ld_row (x := c.2.1) (cx h7) rfl ?_
  rw [hN]
  refine mIf_intro (fun cc => ⟨by omega, ?_⟩) (fun cc => ?_)
  · have hiN : i < N := by simpa using cc
    refine mJoin_cut (fun _ Hk => ∃ (l : List Use) (v : List Int), l.length = N ∧ v.length = N ∧ (∀ x : Int, x ∈ v → 0 ≤ x ∧ x ≤ 2147483647) ∧ StOk now l ∧ Stars Hk [baseO B, vecNO encU 2 s l, vecO (Value.int .i64) t v]) ?_ fun k' hk' => mIf_intro (fun _ => ?_) (fun _ => hk' _ _ ⟨l, v, hl, hv, hvr, hst, h7⟩)
    · clear h7 hst hvr hv hl l v
      rintro _ H8 ⟨l, v, hl, hv, hvr, hst, h8⟩
      refine idx_ld3 (h1.ext (hx h8)) (by omega) (by omega) fun a63 x65 hx65 hcb => ld_row (x := c.2.2) (cx h8) rfl (seg_spec (gx h8) ok fun H9 x9 => ?_)
      have h9 := h8.ext x9
      refine same_row (cx h9) rfl ⟨hcb H9 l1 x65 (h1.ext (hx h9)) hx65, round_spec (by omega) (by omega) ?_⟩
      have q0 := Int.emod_nonneg x65 (show c.2.2 ≠ 0 by omega)
      have q1 := Int.emod_lt_of_pos x65 (show 0 < c.2.2 by omega)
      generalize x65 % c.2.2 = by' at q0 q1
      have hp := mul_le (a := (i : Int)) (b := c.2.2) (A := 32) (B := 64) (by omega) (by omega) (by omega) (by omega)
      have hb := base_le ok
      refine tadd_spec h9 (rx h9) (gx h9) ok 2 rfl (by omega) hvr (by omega) fun H10 h10 => ?_
      have h10' : Stars H10 (baseO B :: _) := h10
      refine idx_ld (h2.ext (hx h10')) (by omega) (by omega) fun x79 _ => ?_
      rw [wrap64_id (x := now + 1) (by omega) (by omega)]
      refine round_spec (by omega) (by omega) ?_
      have w0 := Int.emod_nonneg x79 (show now + 1 ≠ 0 by omega)
      have w1 := Int.emod_lt_of_pos x79 (show 0 < now + 1 by omega)
      refine touch_spec h10 (rx h10') 1 rfl fun H11 h11 => ?_
      rw [wrap_succ (by omega)]
      exact hag hiN _ _ ⟨rfl, _, _, by rw [touchL_len]; exact hl, by rw [addV_len]; exact hv, addV_ok hvr, touchL_st hst w0 (by omega) _, h11⟩
    · refine grab_spec h7 (rx h7) 1 2 rfl rfl (by decide) (by omega) fun H8 h8 => ?_
      have h8' : Stars H8 [baseO B, vecNO encU 2 s (grabL l i), vecO (Value.int .i64) t (grabV l v i)] := h8
      exact seal_spec h8' (rx h8') 1 rfl fun H9 h9 => hk' _ _ ⟨sealL (grabL l i) i, grabV l v i, by rw [sealL_len, grabL_len]; exact hl, by rw [grabV_len]; exact hv, grabV_ok hvr, sealL_st (grabL_st hst nw0 _) nw0 _, h9⟩
  have hiN : i = N := by simp at cc; omega
  subst hiN
  clear hag again
  have v7 : VecN encU 2 H7 s l := h7.get 1 rfl
  refine pick_spec (rx h7) (gx h7) ok (v7.listN lenU) (h7.list 2 rfl) (by omega) (by omega) (fun u hu => (hst u hu).1) (by omega) fun H8 x8 => ?_
  have h8 := h7.ext x8
  generalize hP : pickTo c l v now l.length = P
  have hage : ∀ k : Int, IntKind.wrap .i64 (now - (getZ (0, 0) l k).2) = ageOf now (getZ (0, 0) l k).2 := fun k => by
    obtain ⟨a0, a1⟩ := getZ_st hst nw0 k
    rw [wrap64_id (by omega) (by omega), ageOf]
    split <;> omega
  refine mLoop_count i (fun m st Hk => st = ((pickTo c l v now m).isSome, (m : Int)) ∧ Ext H8 Hk) ⟨rfl, .refl H8⟩ ?_
  rintro m st H9 again hm ⟨rfl, x9⟩ hag
  have h9 := h8.ext x9
  have hv9 : ListN encU 2 H9 s l := (v7.listN lenU).ext (x8.trans x9)
  refine ld_row (x := c.2.1) (cx h9) rfl ?_
  rw [hN]
  refine mIf_intro (fun cm => ?_) (fun cm => ?_)
  rotate_left
  · have hmi : m = i := by simp at cm; omega
    subst hmi
    have : pickTo c l v now m = P := by rw [← hP, hl]
    rw [this]
    exact mJoin_intro (mIf_pos (by simp) (hawake H9 (hx h9)))
  have hmi : m < i := by simpa using cm
  have gl : getZ (0, 0) l (m : Int) = l.getD m (0, 0) := by rw [getZ, if_pos (by omega), Int.toNat_natCast]
  have gv : getZ 0 v (m : Int) = v.getD m 0 := by rw [getZ, if_pos (by omega), Int.toNat_natCast]
  have live : ∀ {H'} {k : Int} {Q : Int → PH → Prop}, Ext H9 H' → Q (getZ 0 v k) H' → usage_Table_Live (some a) k H' Q := fun {H' k Q} xx hQ => live_spec ((rx h9).ext xx) (hv9.ext xx).lenI ((h9.list 2 rfl).ext xx) (by omega) hQ
  have stamp : ∀ {H'} {k : Int} {Q : Int → PH → Prop}, Ext H9 H' → Q (getZ (0, 0) l k).2 H' → usage_Table_Stamp (some a) k H' Q := fun {H' k Q} xx hQ => stamp_spec ((rx h9).ext xx) (hv9.ext xx) hQ
  have half0 := half_le ok
  refine mJoin_intro (state_spec (rx h9) hv9 ?_)
  rw [gl]
  simp only []
  refine mJoin_cut (fun b Hk => b = (((l.getD m (0, 0)).1 != 2) || decide (v.getD m 0 < 1)) ∧ Ext H9 Hk) ?_ fun k' hk' => mIf_intro (fun c1 => hk' _ _ ⟨by rw [c1]; rfl, .refl H9⟩) (fun c1 => live (.refl H9) (by rw [gv]; exact hk' _ _ ⟨by rw [c1]; rfl, .refl H9⟩))
  rintro _ H10 ⟨rfl, x10⟩
  refine mJoin_cut (fun b Hk => b = (cand c l v now m).isNone ∧ Ext H9 Hk) ?_ fun k' hk' => mIf_intro (fun c1 => hk' _ _ ⟨?_, x10⟩) (fun c1 => live x10 (half_spec ((gx h9).ext x10) ok (hk' _ _ ⟨?_, x10⟩)))
  rotate_left
  · rw [cand]
    cases h2 : (l.getD m (0, 0)).1 == 2 with
    | false => rfl
    | true =>
      have : v.getD m 0 < 1 := by
        rw [bne, h2, Bool.not_true, Bool.false_or] at c1
        exact of_decide_eq_true c1
      rw [decide_eq_false (show ¬ 1 ≤ v.getD m 0 by omega)]; rfl
  · rw [gv, cand]
    have c1' : ((l.getD m (0, 0)).1 == 2) = true ∧ ¬ v.getD m 0 < 1 := by
      rw [Bool.or_eq_false_iff] at c1
      exact ⟨by have := c1.1; simpa [bne] using this, of_decide_eq_false c1.2⟩
    rw [c1'.1, decide_eq_true (show 1 ≤ v.getD m 0 by omega), Bool.true_and, Bool.true_and]
    by_cases hh : v.getD m 0 ≤ half c
    · rw [decide_eq_true hh, decide_eq_false (by omega)]; rfl
    · rw [decide_eq_false hh, decide_eq_true (by omega)]; rfl
  · rintro _ H11 ⟨rfl, x11⟩
    have esome := pick_some c l v now m
    cases hcd : cand c l v now m with
    | none =>
      refine mIf_pos rfl (mJoin_intro ?_)
      have nxt : ∀ b : Bool, b = false → mIf b (DoneD H false H11) (again ((pickTo c l v now m).isSome, IntKind.wrap .i64 ((m : Int) + 1)) H11) := by
        rintro _ rfl
        refine mIf_neg rfl ?_
        rw [wrap_succ (by omega)]
        refine hag hmi _ _ ⟨?_, x9.trans x11⟩
        rw [esome, hcd]; simp
      refine mIf_intro (fun cp => nxt _ ?_) (fun _ => nxt _ rfl)
      cases hb : P with
      | none => rw [hb] at cp; cases cp
      | some b =>
        obtain ⟨s', q1, q2, q3⟩ := pick_is c l v now l.length b (hP.trans hb)
        have : m ≠ s' := fun e => by subst e; rw [hcd] at q2; cases q2
        show ((m : Int) == b.2.2) = false
        rw [q3]; simp; omega
    | some x =>
      obtain ⟨b, hb, hbx⟩ := pick_best c l v now l.length m x (by omega) hcd
      have hPb : P = some b := hP.symm.trans hb
      obtain ⟨s', q1, q2, q3⟩ := pick_is c l v now l.length b hb
      have ex : x = (scoreOf (getZ 0 v (m : Int)) (ageOf now (getZ (0, 0) l (m : Int)).2) (c.2.2 - 2), getZ 0 v (m : Int), (m : Int)) := by
        rw [gl, gv]
        unfold cand at hcd
        split at hcd
        · cases hcd; rfl
        · cases hcd
      have eb : b = (scoreOf (getZ 0 v (s' : Int)) (ageOf now (getZ (0, 0) l (s' : Int)).2) (c.2.2 - 2), getZ 0 v (s' : Int), (s' : Int)) := by
        have gl' : getZ (0, 0) l (s' : Int) = l.getD s' (0, 0) := by rw [getZ, if_pos (by omega), Int.toNat_natCast]
        have gv' : getZ 0 v (s' : Int) = v.getD s' 0 := by rw [getZ, if_pos (by omega), Int.toNat_natCast]
        rw [gl', gv']
        unfold cand at q2
        split at q2
        · cases q2; rfl
        · cases q2
      have e89 : (P.getD (0, 0, 0)).2.2 = (s' : Int) := by rw [hPb]; exact q3
      rw [e89, hPb]
      have cx' : ∀ {H'}, Ext H9 H' → RowAt H' a8 (cfgL c) := fun xx => (cx h9).ext xx
      refine mIf_neg rfl ?_
      refine mJoin_cut (fun (b1 : Addr) Hk => Ext H9 Hk ∧ RowAt Hk b1 (encX x)) ?_ fun k' hk' => ?_
      · rintro b1 H12 ⟨x12, rb1⟩
        refine mJoin_cut (fun (b2 : Addr) Hk => Ext H9 Hk ∧ RowAt Hk b1 (encX x) ∧ RowAt Hk b2 (encX b)) ?_ fun k' hk' => ?_
        · rintro b2 H13 ⟨x13, ra1, ra2⟩
          refine mJoin_intro (mIf_pos rfl (ldr_row (x := x) ra1 rfl (ldr_row (x := b) ra2 rfl (better_spec fun H14 x14 => ?_))))
          rw [hbx]
          refine mIf_neg rfl ?_
          rw [wrap_succ (by omega)]
          refine hag hmi _ _ ⟨?_, x9.trans (x13.trans x14)⟩
          rw [esome, hcd]; simp
        · refine ld_row (x := c.2.2) (cx' x12) rfl (live x12 (same_row (cx' x12) rfl (stamp x12 (same_row (cx' x12) rfl ?_))))
          rw [hage, wrap64_id (x := c.2.2 - 2) (by omega) (by omega)]
          refine score_spec (live x12 (new_row fun a2 H13 x13 r2 f2 => ?_))
          refine st_row (vs := encX (scoreOf (getZ 0 v (s' : Int)) (ageOf now (getZ (0, 0) l (s' : Int)).2) (c.2.2 - 2), getZ 0 v (s' : Int), (s' : Int))) r2 rfl rfl fun H14 r3 kp => hk' _ _ ⟨x12.trans (x13.keepB kp f2), rb1.ext (x13.keepB kp f2), by rw [eb]; exact r3⟩
      · refine ld_row (x := c.2.2) (cx' x11) rfl (live x11 (same_row (cx' x11) rfl (stamp x11 (same_row (cx' x11) rfl ?_))))
        rw [hage, wrap64_id (x := c.2.2 - 2) (by omega) (by omega)]
        refine score_spec (live x11 (new_row fun a2 H13 x13 r2 f2 => ?_))
        refine st_row (vs := encX (scoreOf (getZ 0 v (m : Int)) (ageOf now (getZ (0, 0) l (m : Int)).2) (c.2.2 - 2), getZ 0 v (m : Int), (m : Int))) r2 rfl rfl fun H14 r3 kp => hk' _ _ ⟨x11.trans (x13.keepB kp f2), by rw [ex]; exact r3⟩
end Go.Proofs.Ytinjkdoikljakaa

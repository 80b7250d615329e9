/- THE LAW VictimPicks, on formulas: the end. -/
import Derived.Test.YtinjkdoikljakaaVicP
set_option linter.unusedVariables false
set_option linter.unusedSimpArgs false
namespace Go.Proofs.Ytinjkdoikljakaa
open Go Go.Kx

theorem addV_len (c : Cfg) (v : List Int) (at' b : Int) : (addV c v at' b).length = v.length := by unfold addV; split <;> simp
theorem addV_ok {c : Cfg} {v : List Int} {at' b : Int} (h : ∀ x, x ∈ v → 0 ≤ x ∧ x ≤ 2147483647) : ∀ x, x ∈ addV c v at' b → 0 ≤ x ∧ x ≤ 2147483647 := by
  intro x hx
  unfold addV at hx
  split at hx
  · rcases List.mem_or_eq_of_mem_set hx with h1 | h1
    · exact h x h1
    · subst h1
      refine addX_le ?_
      unfold getZ
      split
      · cases hg : v[((at' - base c) / c.2.2).toNat]? with
        | none => simp [List.getD, hg]
        | some y => simp [List.getD, hg]; exact (h y (List.mem_of_getElem? hg)).1
      · exact Int.le_refl 0
  · exact h x hx
theorem pick_pos (c : Cfg) (l : List Use) (v : List Int) (now : Int) : ∀ k x, pickTo c l v now k = some x → 0 ≤ x.2.2 ∧ x.2.2 < k
  | 0, x, h => by cases h
  | k + 1, x, h => by
    have ih := pick_pos c l v now k
    simp only [pickTo] at h
    cases hcd : cand c l v now k with
    | none => rw [hcd] at h; have := ih x h; exact ⟨this.1, by omega⟩
    | some z =>
      have hz : z.2.2 = k := by
        unfold cand at hcd
        split at hcd
        · cases hcd; rfl
        · cases hcd
      rw [hcd] at h
      cases hp : pickTo c l v now k with
      | none => rw [hp] at h; cases h; omega
      | some b =>
        rw [hp] at h
        simp only at h
        split at h
        · cases h; omega
        · cases h; have := ih _ hp; exact ⟨this.1, by omega⟩
theorem picks_law {H : PH} {p0 : Int × Int × Int} {s1 s2 s3 : Sl} {l1 l2 l3 : List Int} {p4 : Int} (h1 : Ints H s1 l1) (h2 : Ints H s2 l2) (h3 : Ints H s3 l3) (hnow : p4 ≤ 9223372036854775807) : keelsonlaw19_VictimPicks p0 s1 s2 s3 p4 H (DoneD H) := by
  have hawake : ∀ H2, Ext H H2 → keelsonlaw19_awake H2 (DoneD H) := fun H2 x2 => awake_spec fun H3 x3 => ⟨rfl, x2.trans x3⟩
  have hl1 := h1.lenI; have hl2 := h2.lenI; have hl3 := h3.lenI
  refine new_row fun a1 H1 x1 r1 _ => ldr_row (x := p0) r1 rfl ?_
  refine config_spec fun H2 x2 => new_row fun a8 H3 x3 r3 f3 => st_row (vs := cfgL (cfgOf p0)) r3 rfl rfl fun H4 r4 kp4 => ldr_row (x := cfgOf p0) r4 rfl (new_yes2 (cfgOf_ok p0) fun g H5 x5 rg _ => ?_)
  have x05 : Ext H H5 := ((x1.trans x2).trans (x3.keepB kp4 f3)).trans x5
  have ok := cfgOf_ok p0
  have r5 := r4.ext x5
  generalize cfgOf p0 = c at ok r5 rg
  have n1 := ok.2.2.1; have n2 := ok.2.2.2.1; have c5 := ok.2.2.2.2.1; have c6 := ok.2.2.2.2.2
  obtain ⟨N, hN⟩ := Int.eq_ofNat_of_zero_le (show 0 ≤ c.2.1 by omega)
  have wake := mJoin_intro (k := fun (s40 : Bool) (H42 : PH) => mJoin (fun (s45 : Bool) (H47 : PH) => DoneD H s45 H47) fun j46 => mIf s40 (keelsonlaw19_awake H42 fun y50 H49 => j46 y50 H49) (j46 false H42)) (body := fun j41 => mIf ((0 : Int) == 0) (j41 (!(Option.isNone (some g))) H5) (j41 false H5)) (mIf_pos rfl (mJoin_intro (mIf_pos rfl (hawake H5 x05))))
  refine mJoin_intro (mIf_neg rfl (mJoin_intro (mIf_neg rfl (ld_row (x := c.2.1) r5 rfl ?_))))
  refine mJoin_intro (mIf_intro (fun _ => mJoin_intro (mIf_pos rfl (mIf_pos rfl wake))) (fun k1 => ld_row (x := c.2.1) r5 rfl (mJoin_intro (mIf_intro (fun _ => mIf_pos rfl wake) (fun k2 => ld_row (x := c.2.1) r5 rfl (mIf_intro (fun _ => wake) (fun k3 => ?_)))))))
  have k1' : N ≤ l1.length := by simp at k1; omega
  have k2' : N ≤ l2.length := by simp at k2; omega
  have k3' : N ≤ l3.length := by simp at k3; omega
  have h6' := (Stars.start H5).nilN (enc := encU) (sz := 2)
  have cx : ∀ {H' L}, Stars H' (baseO H5 :: L) → RowAt H' a8 (cfgL c) := fun h => r5.ext h.base
  have hx : ∀ {H' L}, Stars H' (baseO H5 :: L) → Ext H H' := fun h => x05.trans h.base
  refine mLoop_count N (fun k st Hk => st.2 = (k : Int) ∧ ∃ ul, ul.length = k ∧ (∀ u, u ∈ ul → okU u = true) ∧ Stars Hk [baseO H5, vecNO encU 2 st.1 ul]) ⟨rfl, [], rfl, fun u hu => by simp at hu, h6'⟩ ?_
  clear h6'
  rintro k ⟨q, st⟩ H7 again hk ⟨e, ul, hul, hok, h7⟩ hag
  simp only at e h7
  subst e
  refine ld_row (x := c.2.1) (cx h7) rfl ?_
  rw [hN]
  refine mIf_intro (fun cc => ?_) (fun cc => ?_)
  · have hkN : k < N := by simpa using cc
    refine idx_ld (h1.ext (hx h7)) (by omega) (by omega) fun x _ => idx_ld3 (h3.ext (hx h7)) (by omega) (by omega) fun b2 y hy2 hcb => round_spec (by decide) (by decide) ⟨hcb H7 l3 y (h3.ext (hx h7)) hy2, round_spec (by decide) (by decide) ?_⟩
    have q0 := Int.emod_nonneg x (show (3 : Int) ≠ 0 by decide)
    have q1 := Int.emod_lt_of_pos x (show (0 : Int) < 3 by decide)
    have w0 := Int.emod_nonneg y (show (1048576 : Int) ≠ 0 by decide)
    have w1 := Int.emod_lt_of_pos y (show (0 : Int) < 1048576 by decide)
    generalize x % 3 = sx at q0 q1
    generalize y % 1048576 = sy at w0 w1
    refine S_new1N (enc := encU) (sz := 2) (x := (sx, sy)) h7 rfl fun q1 H10 h10 x10 => ?_
    have v10 : VecN encU 2 H10 q1 [(sx, sy)] := h10.get 2 rfl
    refine S_appN lenU (by decide) (ys := [(sx, sy)]) h10 1 rfl (v10.cells lenU (by decide)) v10.len cvU rfl (by rw [hul, List.length_singleton]; omega) fun q2 H11 h11 => ?_
    rw [wrap_succ (k := k) (by omega)]
    refine hag hkN _ _ ⟨rfl, ul ++ [(sx, sy)], by simp [hul], fun u hu => ?_, h11.pick [0, 1] (by decide) rfl (by simp)⟩
    rcases List.mem_append.1 hu with h | h
    · exact hok u h
    · simp at h; subst h; simp [okU]; omega
  have hkN : k = N := by simp at cc; omega
  subst hkN
  clear hag again
  have hulc : (ul.length : Int) = c.2.1 := by omega
  obtain ⟨B0, xB0, vB0, h8⟩ := (show Stars H7 (baseO H5 :: [] ++ [vecNO encU 2 q ul]) from h7).freeze
  have lB0 : ListN encU 2 B0 q ul := VecN.listN lenU (show VecN encU 2 B0 q ul from vB0)
  refine tnew_froz h8 ⟨g, rfl, rg.ext (xB0.trans h8.base)⟩ ok (lB0.ext h8.base) (.inr hulc) hok fun B1 a s t H9 xB1 ra h9 => ?_
  have ei : iniL c.2.1.toNat ul = ul := by
    rw [iniL, List.drop_of_length_le (by rw [List.length_replicate]; omega), List.append_nil]
  rw [ei] at h9
  refine ldr_row (x := c) (r5.ext (xB0.trans (xB1.trans h9.base))) rfl (r_froz h9 ok (lB0.ext (xB1.trans h9.base)) (.inr hulc) hok fun B b s' t' H10 xB2 rb h10 => ?_)
  rw [ei] at h10
  have xB : Ext H B := x05.trans (xB0.trans (xB1.trans xB2))
  have h10' : Stars H10 [baseO B, vecNO encU 2 s ul, vecO (Value.int .i64) t (List.replicate c.2.1.toNat 0), vecNO encU 2 s' ul, vecO (Value.int .i64) t' (List.replicate c.2.1.toNat 0)] := h10
  have rx : ∀ {H' L}, Stars H' (baseO B :: L) → RowAt H' a (tabRow (some g) s t) := fun h => (ra.ext xB2).ext h.base
  have rrx : ∀ {H' L}, Stars H' (baseO B :: L) → RowAt H' b (rowR c s' t') := fun h => rb.ext h.base
  have gx : ∀ {H' L}, Stars H' (baseO B :: L) → Gm H' (some g) c := fun h => ⟨g, rfl, rg.ext ((xB0.trans (xB1.trans xB2)).trans h.base)⟩
  have hx2 : ∀ {H' L}, Stars H' (baseO B :: L) → Ext H H' := fun h => xB.trans h.base
  have cx2 : ∀ {H' L}, Stars H' (baseO B :: L) → RowAt H' a8 (cfgL c) := fun h => r5.ext ((xB0.trans (xB1.trans xB2)).trans h.base)
  refine mJoin_intro (mIf_neg rfl (mIf_neg rfl ?_))
  refine mLoop_count k (fun i st Hk => st = (i : Int) ∧ ∃ (v : List Int), v.length = k ∧ (∀ x : Int, x ∈ v → 0 ≤ x ∧ x ≤ 2147483647) ∧ Stars Hk [baseO B, vecNO encU 2 s ul, vecO (Value.int .i64) t v, vecNO encU 2 s' ul, vecO (Value.int .i64) t' v])
    ⟨rfl, _, by rw [List.length_replicate]; omega, fun x hx => by have := List.eq_of_mem_replicate hx; omega, h10'⟩ ?_
  clear h10' h10 h9
  rintro i st H11 again hi ⟨rfl, v, hv, hvr, h11⟩ hag
  refine ld_row (x := c.2.1) (cx2 h11) rfl ?_
  rw [hN]
  have hvl : (v.length : Int) = c.2.1 := by omega
  refine mIf_intro (fun cc2 => ?_) (fun cc2 => ?_)
  · have hik : i < k := by simpa using cc2
    refine idx_ld (h2.ext (hx2 h11)) (by omega) (by omega) fun x _ => ld_row (x := c.2.2) (cx2 h11) rfl (round_spec (by omega) (by omega) ?_)
    have q0 := Int.emod_nonneg x (show c.2.2 ≠ 0 by omega)
    have q1 := Int.emod_lt_of_pos x (show 0 < c.2.2 by omega)
    generalize x % c.2.2 = by' at q0 q1
    refine seg_spec (gx h11) ok fun H12 x12 => ?_
    have h12 := h11.ext x12
    have hp := mul_le (a := (i : Int)) (b := c.2.2) (A := 32) (B := 64) (by omega) (by omega) (by omega) (by omega)
    have hb := base_le ok
    rw [if_pos (by omega)]
    refine tadd_spec h12 (rx h12) (gx h12) ok 2 rfl hvl hvr (by omega) fun H13 h13 => ?_
    have h13' : Stars H13 [baseO B, vecNO encU 2 s ul, vecO (Value.int .i64) t (addV c v (base c + i * c.2.2) by'), vecNO encU 2 s' ul, vecO (Value.int .i64) t' v] := h13
    refine ldr_row (x := c) (cx2 h13') rfl (rseg (c := c) ok fun H14 x14 => ?_)
    have h14 := h13'.ext x14
    rw [segAt, if_pos (by omega)]
    refine r_add h14 (rrx h14) ok (by omega) 4 rfl hvl hvr fun H15 h15 => ?_
    rw [wrap_succ (by omega)]
    exact hag hik _ _ ⟨rfl, _, by rw [addV_len]; exact hv, addV_ok hvr, h15⟩
  have v1 : VecN encU 2 H11 s ul := h11.get 1 rfl
  have v3 : VecN encU 2 H11 s' ul := h11.get 3 rfl
  have hst : ∀ u : Use, u ∈ ul → 0 ≤ u.2 := fun u hu => by have := hok u hu; simp [okU] at this; omega
  refine pick_spec (rx h11) (gx h11) ok (v1.listN lenU) (h11.list 2 rfl) (by omega) (by omega) hst hnow fun H12 x12 => ?_
  have h12 := h11.ext x12
  refine rpick_spec (rrx h12) ok ((v3.listN lenU).ext x12) (h12.list 4 rfl) (by omega) (by omega) hst hnow fun H13 x13 => mJoin_intro ?_
  have x0 : Ext H H13 := (hx2 h12).trans x13
  cases hp : pickTo c ul v p4 ul.length with
  | none => exact mIf_pos rfl (mJoin_intro (mIf_pos rfl (mJoin_intro (mIf_pos rfl (mJoin_intro (mIf_neg rfl (mJoin_intro (mIf_pos rfl (hawake H13 x0)))))))))
  | some x =>
    have h0 := (pick_pos _ _ _ _ _ _ hp).1
    refine mIf_pos (by show (true == decide (0 ≤ x.2.2)) = true; simp [h0]) (mJoin_intro (mIf_neg rfl ?_))
    have e : (((some x).getD (0, 0, 0)).2.2 == ((some x).getD (0, 0, -1)).2.2) = true := by simp
    rw [e]
    exact mJoin_intro (mIf_pos rfl (mJoin_intro (mIf_pos rfl (mJoin_intro (mIf_pos rfl (hawake H13 x0))))))
end Go.Proofs.Ytinjkdoikljakaa

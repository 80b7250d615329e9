/- THE LAWS GeomShare AND GeomWhere, on formulas. -/
import Derived.Test.YtdadhppapenjkaaGeomA
set_option linter.unusedVariables false
set_option linter.unusedSimpArgs false
namespace Go.Proofs.Ytdadhppapenjkaa
open Go Go.Kx

/-- The end of a law: it has answered true; all stands as it stood. -/
def DoneG (H : PH) (r : Bool) (H' : PH) : Prop := r = true ∧ Ext H H'

theorem start_spec {H : PH} {l : Cfg} {K : Addr → Option Addr → Int → PH → Prop} (hK : ∀ a p H', Ext H H' → RowAt H' a (cfgL (cfgOf l)) → Gm H' p (cfgOf l) → K a p 0 H') :
    mNew H (row (cfgL l) 22) fun a1 H2 =>
    mLdR (fun (x : (Int × Int × Int)) => [.int .i64 x.1, .int .i64 x.2.1, .int .i64 x.2.2]) H2 a1 3 fun x4 =>
    keelsonalike_Config (x4.1, x4.2.1, x4.2.2) false H2 fun y7 H6 =>
    mNew H6 (row [.int .i64 0, .int .i64 0, .int .i64 0] 25) fun a8 H9 =>
    mSt H9 a8 (cfgL y7) fun H11 =>
    mLdR (fun (x : (Int × Int × Int)) => [.int .i64 x.1, .int .i64 x.2.1, .int .i64 x.2.2]) H11 a8 3 fun x13 =>
    geom_New (x13.1, x13.2.1, x13.2.2) H11 fun y16 y17 H15 => K a8 y16 y17 H15 := by
  refine new_row fun a1 H1 x1 r1 _ => ldr_row (x := l) r1 rfl (config_spec fun H2 x2 => new_row fun a8 H3 x3 r3 f3 => ?_)
  refine st_row r3 rfl rfl fun H4 r4 k4 => ldr_row (x := cfgOf l) r4 rfl (new_yes (cfgOf_ok l) fun p H5 x5 g5 => ?_)
  have x14 := ((x1.trans x2).trans x3).keepB k4 (x1.none (x2.none f3))
  exact hK a8 p H5 (x14.trans x5) (r4.ext x5) g5

theorem share_law {H : PH} {l : Cfg} {s : Sl} {m : List Int} (hs : Ints H s m) : keelsonlaw4_GeomShare l s H (DoneG H) := by
  have hlen := hs.lenI
  have ok := cfgOf_ok l
  refine start_spec fun a p H1 x1 r1 g1 => ?_
  generalize cfgOf l = c at *
  have hawake : ∀ H2, Ext H H2 → keelsonlaw4_awake H2 (DoneG H) := fun H2 x2 => awake_spec fun H3 x3 => ⟨rfl, x2.trans x3⟩
  have h3 := ok.2.2.1
  have h4 := ok.2.2.2.1
  have h5 := ok.2.2.2.2.1
  have h6 := ok.2.2.2.2.2
  have hh := half_le ok
  obtain ⟨ga, rfl, gr⟩ := g1
  have hm1 : IntKind.wrap .i64 (IntKind.wrap .i64 (c.2.1 - 2) - 1) = c.2.1 - 3 := by rw [wrap64_id (x := c.2.1 - 2) (by omega) (by omega), wrap64_id (by omega) (by omega)]; omega
  refine mJoin_intro (mIf_neg rfl (mJoin_intro (mIf_neg rfl (ld_row (x := c.2.1) r1 rfl ?_))))
  rw [hm1]
  refine mIf_intro (fun _ => ?_) (fun hlt => ?_)
  · refine mJoin_intro (mIf_pos rfl (mJoin_intro (mIf_pos rfl ?_)))
    exact hawake H1 x1
  · have hlt' : c.2.1 - 3 ≤ m.length := by simp at hlt; omega
    obtain ⟨N, hN⟩ := Int.eq_ofNat_of_zero_le (show 0 ≤ c.2.1 - 3 by omega)
    refine mLoop_count N (fun k s1 H2 => Ext H H2 ∧ Ext H1 H2 ∧ ∃ sum less, s1 = (sum, less, (k : Int)) ∧ 0 ≤ sum ∧ sum ≤ k * 64 ∧ (less = false → (k : Int) * (half c + 1) ≤ sum)) ⟨x1, .refl _, 0, false, rfl, by omega, by simp, by simp⟩ ?_
    rintro k s1 H2 again hk ⟨x2, x12, sum, less, rfl, hs0, hs1, hless⟩ hag
    have r2 := r1.ext x12
    have g2 : Gm H2 (some ga) c := ⟨ga, rfl, gr.ext x12⟩
    refine ld_row (x := c.2.1) r2 rfl ?_
    rw [hm1]
    refine mIf_intro (fun hc => ?_) (fun hc => ?_)
    · have hkN : k < N := by simp at hc; omega
      refine idx_ld (hs.ext x2) (by simp) (by dsimp only; omega) fun x hx => ld_row (x := c.2.2) r2 rfl (round_spec (by omega) (by omega) ?_)
      have a1 := Int.emod_nonneg x (show c.2.2 ≠ 0 by omega)
      have a2 := Int.emod_lt_of_pos x (show 0 < c.2.2 by omega)
      have ek : IntKind.wrap .i64 ((k : Int) + 1) = ((k + 1 : Nat) : Int) := by rw [wrap64_id (by omega) (by omega)]; push_cast; rfl
      have hs1' : sum ≤ 29 * 64 := by have : (k : Int) ≤ 29 := by omega
                                      omega
      have es : IntKind.wrap .i64 (sum + x % c.2.2) = sum + x % c.2.2 := wrap64_id (by omega) (by omega)
      refine mJoin_intro (mIf_intro (fun hl => ?_) (fun hl => half_spec g2 ok ?_))
      · dsimp only at hl ⊢
        rw [ek, es]
        exact hag hkN _ _ ⟨x2, x12, _, _, rfl, by omega, by push_cast; omega, fun h => by cases h⟩
      · dsimp only at hl ⊢
        rw [ek, es]
        refine hag hkN _ _ ⟨x2, x12, _, _, rfl, by omega, by push_cast; omega, fun h => ?_⟩
        have hl2 := hless hl
        have hgt : half c + 1 ≤ x % c.2.2 := by simp at h; omega
        have : ((k + 1 : Nat) : Int) * (half c + 1) = k * (half c + 1) + (half c + 1) := by push_cast; rw [Int.add_mul, Int.one_mul]
        rw [this]; omega
    · have hkN : k = N := by simp at hc; omega
      subst hkN
      have fin : ∀ H3, Ext H2 H3 → Go.Kx.mJoin (fun (s69 : Bool) (H71 : PH) =>
          mJoin (fun (s74 : Bool) (H76 : PH) =>
          mJoin (fun (s79 : Bool) (H81 : PH) => DoneG H s79 H81) fun j80 => mIf s74 (keelsonlaw4_awake H76 fun y84 H83 => j80 y84 H83) (j80 false H76))
          fun j75 => mIf s69 (mLd (.int .i64) H71 (a.add 2) fun x85 => geom_Geom_Half (some ga) H71 fun y88 H87 => mSame H87 (a.add 2) (.int .i64 x85) <| j75 (decide ((IntKind.wrap .i64 (x85 - 3)) ≤ (IntKind.wrap .i64 (2 * y88)))) H87) (j75 false H71))
          fun j70 => mIf true (mLd (.int .i64) H3 (a.add 2) fun x90 => geom_Geom_Half (some ga) H3 fun y93 H92 => mSame H92 (a.add 2) (.int .i64 x90) <| j70 (decide ((IntKind.wrap .i64 (2 * y93)) ≤ (IntKind.wrap .i64 (x90 - 2)))) H92) (j70 false H3) := fun H3 x3 => by
        have r3 := r2.ext x3
        have g3 := g2.ext x3
        have e1 : decide (IntKind.wrap .i64 (2 * half c) ≤ IntKind.wrap .i64 (c.2.2 - 2)) = true := by
          rw [wrap64_id (by omega) (by omega), wrap64_id (by omega) (by omega), decide_eq_true_eq]; simp only [half]; omega
        have e2 : decide (IntKind.wrap .i64 (c.2.2 - 3) ≤ IntKind.wrap .i64 (2 * half c)) = true := by
          rw [wrap64_id (by omega) (by omega), wrap64_id (by omega) (by omega), decide_eq_true_eq]; simp only [half]; omega
        refine mJoin_intro (mIf_pos rfl (ld_row (x := c.2.2) r3 rfl (half_spec g3 ok (same_row r3 rfl ?_))))
        rw [e1]
        refine mJoin_intro (mIf_pos rfl (ld_row (x := c.2.2) r3 rfl (half_spec g3 ok (same_row r3 rfl ?_))))
        rw [e2]
        exact mJoin_intro (mIf_pos rfl (hawake H3 (x2.trans x3)))
      refine mJoin_intro (mIf_intro (fun _ => fin H2 (.refl _)) (fun hl => share_spec g2 ok ?_))
      have hl2 := hless hl
      have e : decide (share c < sum) = true := by
        rw [decide_eq_true_eq]; simp only [share]
        rw [hN]; omega
      dsimp only
      rw [e]; exact fin H2 (.refl _)

theorem where_law {H : PH} {l : Cfg} {s off : Int} : keelsonlaw4_GeomWhere l s off H (DoneG H) := by
  have ok := cfgOf_ok l
  refine start_spec fun a p H1 x1 r1 g1 => ?_
  generalize cfgOf l = c at *
  have h3 := ok.2.2.1
  have h4 := ok.2.2.2.1
  have h5 := ok.2.2.2.2.1
  have h6 := ok.2.2.2.2.2
  have hb := base_le ok
  have hp := prod_le ok
  have hall : all c = base c + c.2.1 * c.2.2 := rfl
  obtain ⟨ga, rfl, gr⟩ := g1
  have g1 : Gm H1 (some ga) c := ⟨ga, rfl, gr⟩
  have hseg0 : (if (0 : Int) ≤ 0 ∧ 0 < c.2.1 then base c + 0 * c.2.2 else -1) = base c := by rw [if_pos ⟨by omega, by omega⟩]; omega
  refine mJoin_intro (mIf_neg rfl (mIf_neg rfl (seg_spec g1 ok fun H2 x2 => ?_)))
  rw [hseg0]
  refine mIf_intro (fun h => by simp at h; omega) (fun _ => ?_)
  have r2 := r1.ext x2
  have g2 := g1.ext x2
  refine ld_row (x := c.2.1) r2 rfl (ld_row (x := c.2.2) r2 rfl (round_spec (by omega) (by omega) (same_row r2 rfl (round_spec (by omega) (by omega) ?_))))
  have a1 := Int.emod_nonneg s (show c.2.1 ≠ 0 by omega)
  have a2 := Int.emod_lt_of_pos s (show 0 < c.2.1 by omega)
  have b1 := Int.emod_nonneg off (show c.2.2 ≠ 0 by omega)
  have b2 := Int.emod_lt_of_pos off (show 0 < c.2.2 by omega)
  generalize hA : s % c.2.1 = A at *
  generalize hB : off % c.2.2 = B at *
  have hAn : 0 ≤ A * c.2.2 ∧ A * c.2.2 + c.2.2 ≤ c.2.1 * c.2.2 := by
    refine ⟨Int.mul_nonneg a1 (by omega), ?_⟩
    have : (A + 1) * c.2.2 ≤ c.2.1 * c.2.2 := Int.mul_le_mul_of_nonneg_right (by omega) (by omega)
    rw [Int.add_mul, Int.one_mul] at this; exact this
  refine seg_spec g2 ok fun H3 x3 => ?_
  have g3 := g2.ext x3
  rw [if_pos ⟨a1, a2⟩, wrap64_id (by omega) (by omega)]
  refine where_spec g3 ok fun H4 x4 => ?_
  have g4 := g3.ext x4
  rw [if_pos (by omega)]
  have ed : (base c + A * c.2.2 + B - base c) / c.2.2 = A := by
    rw [show base c + A * c.2.2 + B - base c = B + A * c.2.2 by omega, Int.add_mul_ediv_right _ _ (by omega), Int.ediv_eq_zero_of_lt b1 b2]; omega
  have em : (base c + A * c.2.2 + B - base c) % c.2.2 = B := by
    rw [show base c + A * c.2.2 + B - base c = B + A * c.2.2 by omega, Int.add_mul_emod_self_right, Int.emod_eq_of_lt b1 b2]
  rw [ed, em]
  refine seg_spec g4 ok fun H5 x5 => ?_
  have g5 := g4.ext x5
  rw [hseg0]
  refine round_spec (by omega) (by omega) ?_
  have c1 := Int.emod_nonneg off (show base c ≠ 0 by omega)
  have c2 := Int.emod_lt_of_pos off (show 0 < base c by omega)
  refine where_spec g5 ok fun H6 x6 => ?_
  have g6 := g5.ext x6
  rw [if_neg (by omega)]
  refine all_spec g6 ok fun H7 x7 => round_spec (by decide) (by decide) ?_
  have g7 := g6.ext x7
  have d1 := Int.emod_nonneg s (show (1000 : Int) ≠ 0 by omega)
  have d2 := Int.emod_lt_of_pos s (show (0 : Int) < 1000 by omega)
  rw [wrap64_id (by omega) (by omega)]
  refine where_spec g7 ok fun H8 x8 => ?_
  have g8 := g7.ext x8
  rw [if_neg (by omega)]
  refine round_spec (by decide) (by decide) ?_
  rw [wrap64_id (by omega) (by omega)]
  refine where_spec g8 ok fun H9 x9 => ?_
  rw [if_neg (by omega)]
  have x19 := (((((((x1.trans x2).trans x3).trans x4).trans x5).trans x6).trans x7).trans x8).trans x9
  refine mJoin_intro (mIf_pos rfl (mJoin_intro (mIf_pos (by simp) (mJoin_intro (mIf_pos (by simp) (mJoin_intro (mIf_pos rfl (mJoin_intro (mIf_pos rfl ?_)))))))))
  exact mJoin_intro (mIf_pos rfl (awake_spec fun H10 x10 => ⟨rfl, x19.trans x10⟩))
end Go.Proofs.Ytdadhppapenjkaa

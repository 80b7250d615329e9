/- THE LAW GeomTells, on formulas. -/
import Derived.Test.YtdadhppapenjkaaGeomB
set_option linter.unusedVariables false
set_option linter.unusedSimpArgs false
namespace Go.Proofs.Ytdadhppapenjkaa
open Go Go.Kx

def segAt (c : Cfg) (s : Int) : Int := if 0 ≤ s ∧ s < c.2.1 then base c + s * c.2.2 else -1
def supAt (s : Int) : Int := if 0 ≤ s ∧ s ≤ 1 then s else -1
def regAt (c : Cfg) (s : Int) : Int := if 0 ≤ s ∧ s ≤ 1 then 2 + s * rlen c else -1
def pageAt (c : Cfg) (over : Bool) (g s : Int) : Int := if (0 ≤ s ∧ s ≤ 1) ∧ 0 ≤ g ∧ g < pgs c then 2 + 2 * (rlen c + g + (if over then pgs c else 0)) + s else -1

theorem slot_mul {c : Cfg} (hc : CfgOk c) {s : Int} (h : 0 ≤ s ∧ s ≤ 1) : 0 ≤ s * rlen c ∧ s * rlen c ≤ 4 := by
  have hl := rlen_le hc
  rcases (by omega : s = 0 ∨ s = 1) with rfl | rfl <;> omega
theorem super_any {H : PH} {p : Option Addr} {c : Cfg} {s : Int} {Q : Int → PH → Prop} (hg : Gm H p c) (hQ : Q (supAt s) H) : geom_Geom_Super p s H Q := by
  obtain ⟨a, rfl, hr⟩ := hg
  refine mJoin_intro (mIf_neg rfl (within_spec (mIf_intro (fun e => ?_) (fun e => ?_))))
  · rw [supAt, if_neg (by simp at e; omega)] at hQ; exact hQ
  · rw [supAt, if_pos (by simp at e; omega)] at hQ; exact hQ
theorem region_any {H : PH} {p : Option Addr} {c : Cfg} {s : Int} {Q : Int → PH → Prop} (hg : Gm H p c) (hc : CfgOk c) (hQ : Q (regAt c s) H) : geom_Geom_Region p s H Q := by
  obtain ⟨a, rfl, hr⟩ := hg
  refine mJoin_intro (mIf_neg rfl (within_spec (mIf_intro (fun e => ?_) (fun e => ?_))))
  · rw [regAt, if_neg (by simp at e; omega)] at hQ; exact hQ
  · have hs : 0 ≤ s ∧ s ≤ 1 := by simp at e; omega
    rw [regAt, if_pos hs] at hQ
    have := slot_mul hc hs
    refine rlen_spec ⟨a, rfl, hr⟩ hc ?_
    rw [wrap64_id (x := s * rlen c) (by omega) (by omega), wrap64_id (by omega) (by omega)]; exact hQ
theorem page_any {H : PH} {p : Option Addr} {c : Cfg} {over : Bool} {s g : Int} {Q : Int → PH → Prop} (hg : Gm H p c) (hc : CfgOk c) (hQ : ∀ H', Ext H H' → Q (pageAt c over g s) H') : geom_Geom_Page p over g s H Q := by
  obtain ⟨a, rfl, hr⟩ := hg
  have hl := rlen_le hc
  have hp := pgs_le hc
  refine mJoin_intro (mIf_neg rfl (within_spec (mJoin_intro (mIf_intro (fun e => ?_) (fun e => ?_)))))
  · have := hQ H (.refl _)
    rw [pageAt, if_neg (by simp at e; omega)] at this
    exact mIf_pos rfl this
  · have hs : 0 ≤ s ∧ s ≤ 1 := by simp at e; omega
    refine pages_spec ⟨a, rfl, hr⟩ hc fun H1 x1 => within_spec ?_
    have gm1 : Gm H1 (some a) c := ⟨a, rfl, hr.ext x1⟩
    rw [wrap64_id (x := pgs c - 1) (by omega) (by omega)]
    refine mIf_intro (fun e2 => ?_) (fun e2 => ?_)
    · have := hQ H1 x1
      rw [pageAt, if_neg (by simp at e2; omega)] at this; exact this
    · have g0 : 0 ≤ g ∧ g < pgs c := by simp at e2; omega
      refine mJoin_intro (mIf_intro (fun ho => pages_spec gm1 hc fun H2 x2 => rlen_spec (gm1.ext x2) hc ?_) (fun ho => rlen_spec gm1 hc ?_))
      · subst ho
        rw [wrap64_id (x := g + pgs c) (by omega) (by omega), wrap64_id (x := rlen c + (g + pgs c)) (by omega) (by omega), wrap64_id (x := 2 * (rlen c + (g + pgs c))) (by omega) (by omega), wrap64_id (x := 2 + 2 * (rlen c + (g + pgs c))) (by omega) (by omega), wrap64_id (by omega) (by omega)]
        have := hQ H2 (x1.trans x2)
        rw [pageAt, if_pos ⟨hs, g0⟩, if_pos rfl, Int.add_assoc (rlen c)] at this; exact this
      · subst ho
        rw [wrap64_id (x := rlen c + g) (by omega) (by omega), wrap64_id (x := 2 * (rlen c + g)) (by omega) (by omega), wrap64_id (x := 2 + 2 * (rlen c + g)) (by omega) (by omega), wrap64_id (by omega) (by omega)]
        have := hQ H1 x1
        rw [pageAt, if_pos ⟨hs, g0⟩, if_neg (by decide), Int.add_zero] at this; exact this

/-! ### The document's answers -/
theorem rwithin {H : PH} {a lo hi : Int} {Q : Bool → PH → Prop} (hQ : Q (decide (lo ≤ a) && decide (a ≤ hi)) H) : keelsonref1_Within a lo hi H Q :=
  mJoin_intro (mIf_intro (fun h => by rw [h, Bool.true_and] at hQ; exact hQ) (fun h => by rw [h, Bool.false_and] at hQ; exact hQ))
theorem rmay {H : PH} {c : Cfg} {Q : Bool → PH → Prop} (hQ : ∀ H' b, Ext H H' → (b = true ↔ CfgOk c) → Q b H') : keelsonref1_ConfigMay c H Q := by
  refine new_row fun a1 H1 x1 r1 _ => ld_row (x := c.1) r1 rfl (rwithin ?_)
  refine mJoin_intro (mIf_intro (fun e1 => ld_row (x := c.2.1) r1 rfl (rwithin (mJoin_intro (mIf_intro (fun e2 => ld_row (x := c.2.2) r1 rfl (rwithin (hQ _ _ x1 ?_))) (fun e2 => hQ _ _ x1 ?_))))) (fun e1 => mJoin_intro (mIf_neg rfl (hQ _ _ x1 ?_))))
  · simp at e1 e2 ⊢; simp only [CfgOk]; omega
  · simp at e1 e2 ⊢; simp only [CfgOk]; omega
  · simp at e1 ⊢; simp only [CfgOk]; omega
theorem rup {H : PH} {n by' : Int} {Q : Int → PH → Prop} (h0 : 0 ≤ n) (h1 : n ≤ 2 ^ 40) (h2 : 1 ≤ by') (h3 : by' ≤ 2 ^ 40) (hQ : Q ((n + by' - 1) / by') H) : keelsonref1_Up n by' H Q := by
  refine ⟨by omega, ?_⟩
  rw [wrap64_id (x := n + by') (by omega) (by omega), wrap64_id (x := n + by' - 1) (by omega) (by omega), Int.tdiv_eq_ediv_of_nonneg (by omega)]
  have a1 : 0 ≤ (n + by' - 1) / by' := Int.ediv_nonneg (by omega) (by omega)
  have a2 : (n + by' - 1) / by' ≤ n + by' - 1 := Int.ediv_le_self _ (by omega)
  rw [wrap64_id (by omega) (by omega)]; exact hQ
theorem rrlen {H : PH} {c : Cfg} {Q : Int → PH → Prop} (hc : CfgOk c) (hQ : ∀ H', Ext H H' → Q (rlen c) H') : keelsonref1_RegionLen c H Q := by
  obtain ⟨h1, h2, h3, h4, h5, h6⟩ := hc
  refine new_row fun a1 H1 x1 r1 _ => ld_row (x := c.2.1) r1 rfl ?_
  rw [wrap64_id (x := 5 * c.2.1) (by omega) (by omega), wrap64_id (x := 43 + 5 * c.2.1) (by omega) (by omega)]
  refine rup (by omega) (by omega) (by decide) (by decide) ?_
  have : (43 + 5 * c.2.1 + 64 - 1) / 64 = rlen c := by simp only [rlen]; omega
  rw [this]; exact hQ H1 x1
theorem rpages {H : PH} {c : Cfg} {Q : Int → PH → Prop} (hc : CfgOk c) (hQ : ∀ H', Ext H H' → Q (pgs c) H') : keelsonref1_Pages c H Q := by
  obtain ⟨h1, h2, h3, h4, h5, h6⟩ := hc
  refine new_row fun a1 H1 x1 r1 _ => ld_row (x := c.1) r1 rfl (rup (by omega) (by omega) (by decide) (by decide) ?_)
  have : (c.1 + 15 - 1) / 15 = pgs c := by simp only [pgs]; omega
  rw [this]; exact hQ H1 x1
theorem rseg {H : PH} {c : Cfg} {s : Int} {Q : Int → PH → Prop} (hc : CfgOk c) (hQ : ∀ H', Ext H H' → Q (segAt c s) H') : keelsonref1_SegAt c s H Q := by
  have h3 := hc.2.2.1
  have h4 := hc.2.2.2.1
  have h5 := hc.2.2.2.2.1
  have h6 := hc.2.2.2.2.2
  have hb := base_le hc
  have hbase : base c = 2 + 2 * (rlen c + 2 * pgs c) := rfl
  have hl := rlen_le hc
  have hp := pgs_le hc
  refine new_row fun a1 H1 x1 r1 _ => ld_row (x := c.2.1) r1 rfl ?_
  rw [wrap64_id (x := c.2.1 - 1) (by omega) (by omega)]
  refine rwithin (mIf_intro (fun e => ?_) (fun e => ?_))
  · have := hQ H1 x1
    rw [segAt, if_neg (by simp at e; omega)] at this; exact this
  · have hs : 0 ≤ s ∧ s < c.2.1 := by simp at e; omega
    refine ldr_row (x := c) r1 rfl (ldr_row (x := c) r1 rfl (ld_row (x := c.2.2) r1 rfl (rrlen hc fun H2 x2 => same_row (r1.ext x2) rfl ⟨(r1.ext x2).all rfl, rpages hc fun H3 x3 => same_row (r1.ext (x2.trans x3)) rfl ?_⟩)))
    have hm := mul_le hs.1 (show s ≤ 32 by omega) (show 0 ≤ c.2.2 by omega) h6
    rw [wrap64_id (x := 2 * rlen c) (by omega) (by omega), wrap64_id (x := 2 + 2 * rlen c) (by omega) (by omega), wrap64_id (x := 4 * pgs c) (by omega) (by omega), wrap64_id (x := 2 + 2 * rlen c + 4 * pgs c) (by omega) (by omega), wrap64_id (x := s * c.2.2) (by omega) (by omega), wrap64_id (by omega) (by omega)]
    have := hQ H3 ((x1.trans x2).trans x3)
    rw [segAt, if_pos hs] at this
    rw [show 2 + 2 * rlen c + 4 * pgs c + s * c.2.2 = base c + s * c.2.2 by omega]; exact this
theorem seg0 {c : Cfg} (hc : CfgOk c) : segAt c 0 = base c := by
  have h3 := hc.2.2.1
  rw [segAt, if_pos ⟨by omega, by omega⟩]; omega
theorem rsectors {H : PH} {c : Cfg} {Q : Int → PH → Prop} (hc : CfgOk c) (hQ : ∀ H', Ext H H' → Q (all c) H') : keelsonref1_Sectors c H Q := by
  have hb := base_le hc
  have hp := prod_le hc
  refine new_row fun a1 H1 x1 r1 _ => ldr_row (x := c) r1 rfl (ld_row (x := c.2.1) r1 rfl (ld_row (x := c.2.2) r1 rfl (rseg hc fun H2 x2 => same_row (r1.ext x2) rfl (same_row (r1.ext x2) rfl ?_))))
  rw [seg0 hc, wrap64_id (x := c.2.1 * c.2.2) (by omega) (by omega), wrap64_id (by omega) (by omega)]
  exact hQ H2 (x1.trans x2)
theorem rwhere {H : PH} {c : Cfg} {a : Int} {Q : Int → Int → Bool → PH → Prop} (hc : CfgOk c) (ha : a ≤ 9223372036854775807)
    (hQ : ∀ H', Ext H H' → if base c ≤ a ∧ a < all c then Q ((a - base c) / c.2.2) ((a - base c) % c.2.2) true H' else Q 0 0 false H') : keelsonref1_Where c a H Q := by
  have hb := base_le hc
  have hp := prod_le hc
  have h5 := hc.2.2.2.2.1
  have hall : all c = base c + c.2.1 * c.2.2 := rfl
  refine new_row fun a1 H1 x1 r1 _ => ldr_row (x := c) r1 rfl (rseg hc fun H2 x2 => ldr_row (x := c) (r1.ext x2) rfl (rseg hc fun H3 x3 => ?_))
  rw [seg0 hc]
  have r3 := r1.ext (x2.trans x3)
  have := hQ H3 ((x1.trans x2).trans x3)
  refine mJoin_intro (mIf_intro (fun e => ?_) (fun e => ld_row (x := c.2.1) r3 rfl (ld_row (x := c.2.2) r3 rfl ?_)))
  · rw [if_neg (by simp at e; omega)] at this; exact mIf_pos rfl this
  · have ha0 : base c ≤ a := by simpa using e
    rw [wrap64_id (x := c.2.1 * c.2.2) (by omega) (by omega), wrap64_id (x := a - base c) (by omega) (by omega)]
    refine mIf_intro (fun e2 => ?_) (fun e2 => ?_)
    · rw [if_neg (by simp at e2; omega)] at this; exact this
    · have ha1 : a < all c := by simp at e2; omega
      rw [if_pos ⟨ha0, ha1⟩] at this
      refine ld_row (x := c.2.2) r3 rfl ⟨by omega, ld_row (x := c.2.2) r3 rfl ⟨by omega, ?_⟩⟩
      rw [Int.tdiv_eq_ediv_of_nonneg (by omega), Int.tmod_eq_emod_of_nonneg (by omega)]
      have a1 : 0 ≤ (a - base c) / c.2.2 := Int.ediv_nonneg (by omega) (by omega)
      have a2 : (a - base c) / c.2.2 ≤ a - base c := Int.ediv_le_self _ (by omega)
      rw [wrap64_id (by omega) (by omega)]; exact this
theorem rsuper {H : PH} {s : Int} {Q : Int → PH → Prop} (hQ : Q (supAt s) H) : keelsonref1_SuperAt s H Q := by
  refine rwithin (mIf_intro (fun e => ?_) (fun e => ?_))
  · rw [supAt, if_neg (by simp at e; omega)] at hQ; exact hQ
  · rw [supAt, if_pos (by simp at e; omega)] at hQ; exact hQ
theorem rregion {H : PH} {c : Cfg} {s : Int} {Q : Int → PH → Prop} (hc : CfgOk c) (hQ : ∀ H', Ext H H' → Q (regAt c s) H') : keelsonref1_RegionAt c s H Q := by
  refine new_row fun a1 H1 x1 r1 _ => rwithin (mIf_intro (fun e => ?_) (fun e => ?_))
  · have := hQ H1 x1
    rw [regAt, if_neg (by simp at e; omega)] at this; exact this
  · have hs : 0 ≤ s ∧ s ≤ 1 := by simp at e; omega
    have := slot_mul hc hs
    refine ldr_row (x := c) r1 rfl (rrlen hc fun H2 x2 => ?_)
    rw [wrap64_id (x := s * rlen c) (by omega) (by omega), wrap64_id (by omega) (by omega)]
    have := hQ H2 (x1.trans x2)
    rw [regAt, if_pos hs] at this; exact this
theorem rpage {H : PH} {c : Cfg} {over : Bool} {s g : Int} {Q : Int → PH → Prop} (hc : CfgOk c) (hQ : ∀ H', Ext H H' → Q (pageAt c over g s) H') : keelsonref1_PageAt c over g s H Q := by
  have hl := rlen_le hc
  have hp := pgs_le hc
  refine new_row fun a1 H1 x1 r1 _ => rwithin (mJoin_intro (mIf_intro (fun e => ?_) (fun e => ?_)))
  · have := hQ H1 x1
    rw [pageAt, if_neg (by simp at e; omega)] at this
    exact mIf_pos rfl this
  · have hs : 0 ≤ s ∧ s ≤ 1 := by simp at e; omega
    refine ldr_row (x := c) r1 rfl (rpages hc fun H2 x2 => ?_)
    rw [wrap64_id (x := pgs c - 1) (by omega) (by omega)]
    refine rwithin (mIf_intro (fun e2 => ?_) (fun e2 => ?_))
    · have := hQ H2 (x1.trans x2)
      rw [pageAt, if_neg (by simp at e2; omega)] at this; exact this
    · have g0 : 0 ≤ g ∧ g < pgs c := by simp at e2; omega
      have r2 := r1.ext x2
      refine ldr_row (x := c) r2 rfl (rrlen hc fun H3 x3 => ?_)
      rw [wrap64_id (x := 2 * rlen c) (by omega) (by omega), wrap64_id (x := 2 + 2 * rlen c) (by omega) (by omega), wrap64_id (x := 2 * g) (by omega) (by omega), wrap64_id (x := 2 + 2 * rlen c + 2 * g) (by omega) (by omega), wrap64_id (x := 2 + 2 * rlen c + 2 * g + s) (by omega) (by omega)]
      refine mJoin_intro (mIf_intro (fun ho => ldr_row (x := c) (r2.ext x3) rfl (rpages hc fun H4 x4 => ?_)) (fun ho => ?_))
      · subst ho
        rw [wrap64_id (x := 2 * pgs c) (by omega) (by omega), wrap64_id (by omega) (by omega)]
        have := hQ H4 (((x1.trans x2).trans x3).trans x4)
        rw [pageAt, if_pos ⟨hs, g0⟩, if_pos rfl] at this
        rw [show 2 + 2 * rlen c + 2 * g + s + 2 * pgs c = 2 + 2 * (rlen c + g + pgs c) + s by omega]; exact this
      · subst ho
        have := hQ H3 ((x1.trans x2).trans x3)
        rw [pageAt, if_pos ⟨hs, g0⟩, if_neg (by decide)] at this
        rw [show 2 + 2 * rlen c + 2 * g + s = 2 + 2 * (rlen c + g + 0) + s by omega]; exact this
theorem rhalf {H : PH} {c : Cfg} {Q : Int → PH → Prop} (hc : CfgOk c) (hQ : ∀ H', Ext H H' → Q (half c) H') : keelsonref1_Half c H Q := by
  have hh := half_le hc
  obtain ⟨h1, h2, h3, h4, h5, h6⟩ := hc
  refine new_row fun a1 H1 x1 r1 _ => ld_row (x := c.2.2) r1 rfl ?_
  rw [wrap64_id (x := c.2.2 - 2) (by omega) (by omega), Int.tdiv_eq_ediv_of_nonneg (by omega), wrap64_id (by simp only [half] at hh; omega) (by simp only [half] at hh; omega)]
  exact hQ H1 x1
theorem rshare {H : PH} {c : Cfg} {Q : Int → PH → Prop} (hc : CfgOk c) (hQ : ∀ H', Ext H H' → Q (share c) H') : keelsonref1_Share c H Q := by
  have hh := half_le hc
  have h3 := hc.2.2.1
  have h4 := hc.2.2.2.1
  refine new_row fun a1 H1 x1 r1 _ => ld_row (x := c.2.1) r1 rfl (ldr_row (x := c) r1 rfl (rhalf hc fun H2 x2 => same_row (r1.ext x2) rfl ?_))
  have hp := mul_le (a := c.2.1 - 2 - 1) (b := half c + 1) (A := 29) (B := 32) (by omega) (by omega) (by omega) (by omega)
  rw [wrap64_id (x := c.2.1 - 2) (by omega) (by omega), wrap64_id (x := c.2.1 - 2 - 1) (by omega) (by omega), wrap64_id (x := half c + 1) (by omega) (by omega), wrap64_id (x := (c.2.1 - 2 - 1) * (half c + 1)) (by omega) (by omega), wrap64_id (by omega) (by omega)]
  have e : (c.2.1 - 2 - 1) * (half c + 1) - 1 = share c := by simp only [share]; rw [show c.2.1 - 2 - 1 = c.2.1 - 3 by omega]
  rw [e]; exact hQ H2 (x1.trans x2)

theorem tells_law {H : PH} {c : Cfg} {a b : Int} {over : Bool} (ha : a ≤ 9223372036854775807) : keelsonlaw4_GeomTells c a b over H (DoneG H) := by
  have hawake : ∀ H2, Ext H H2 → keelsonlaw4_awake H2 (DoneG H) := fun H2 x2 => awake_spec fun H3 x3 => ⟨rfl, x2.trans x3⟩
  refine new_row fun a1 H1 x1 r1 _ => ldr_row (x := c) r1 rfl ?_
  by_cases hc : CfgOk c
  · refine new_yes hc fun p H2 x2 g2 => ldr_row (x := c) (r1.ext x2) rfl (rmay fun H3 bb x3 hb => ?_)
    obtain rfl := hb.2 hc
    obtain ⟨ga, rfl, gr⟩ := g2
    have x13 := (x1.trans x2).trans x3
    have r3 := r1.ext (x2.trans x3)
    have g3 : Gm H3 (some ga) c := ⟨ga, rfl, gr.ext x3⟩
    refine mIf_neg rfl (mJoin_intro (mIf_neg rfl (mJoin_intro (mIf_neg rfl (ldr_row (x := c) r3 rfl (cfg_spec g3 fun H4 x4 => ⟨(r3.ext x4).all rfl, ?_⟩))))))
    have e0 : (!(andAll [c.1 == c.1, c.2.1 == c.2.1, c.2.2 == c.2.2])) = false := by simp [andAll]
    rw [e0]
    refine mIf_neg rfl (where_spec (g3.ext x4) hc fun H5 x5 => ?_)
    have r5 := r3.ext (x4.trans x5)
    have g5 := g3.ext (x4.trans x5)
    have x15 := (x13.trans x4).trans x5
    -- what was asked of Where agrees
    have rest : ∀ H6, Ext H5 H6 → ∀ (y1 y2 : Int) (y3 : Bool), mJoin (fun (s48 : Bool) (H50 : PH) =>
        mJoin (fun (s53 : Bool) (H55 : PH) => mJoin (fun (s58 : Bool) (H60 : PH) => mJoin (fun (s63 : Bool) (H65 : PH) => mJoin (fun (s68 : Bool) (H70 : PH) =>
        mIf s68 (DoneG H false H70) (geom_Geom_Super (some ga) a H70 fun y74 H73 => keelsonref1_SuperAt a H73 fun y76 H75 =>
        mJoin (fun (s78 : Bool) (H80 : PH) => mJoin (fun (s83 : Bool) (H85 : PH) => mJoin (fun (s88 : Bool) (H90 : PH) => mJoin (fun (s93 : Bool) (H95 : PH) => mJoin (fun (s98 : Bool) (H100 : PH) => mJoin (fun (s103 : Bool) (H105 : PH) => DoneG H s103 H105)
        fun j104 => mIf s98 (keelsonlaw4_awake H100 fun y108 H107 => j104 y108 H107) (j104 false H100))
        fun j99 => mIf s93 (mLdR (fun (x : (Int × Int × Int)) => [.int .i64 x.1, .int .i64 x.2.1, .int .i64 x.2.2]) H95 a1 3 fun x109 => geom_Geom_Share (some ga) H95 fun y112 H111 => mSameA H111 a1 3 ([.int .i64 x109.1, .int .i64 x109.2.1, .int .i64 x109.2.2]) <| keelsonref1_Share (x109.1, x109.2.1, x109.2.2) H111 fun y115 H114 => j99 (y112 == y115) H114) (j99 false H95))
        fun j94 => mIf s88 (mLdR (fun (x : (Int × Int × Int)) => [.int .i64 x.1, .int .i64 x.2.1, .int .i64 x.2.2]) H90 a1 3 fun x116 => geom_Geom_Half (some ga) H90 fun y119 H118 => mSameA H118 a1 3 ([.int .i64 x116.1, .int .i64 x116.2.1, .int .i64 x116.2.2]) <| keelsonref1_Half (x116.1, x116.2.1, x116.2.2) H118 fun y122 H121 => j94 (y119 == y122) H121) (j94 false H90))
        fun j89 => mIf s83 (mLdR (fun (x : (Int × Int × Int)) => [.int .i64 x.1, .int .i64 x.2.1, .int .i64 x.2.2]) H85 a1 3 fun x123 => geom_Geom_Seg (some ga) a H85 fun y126 H125 => mSameA H125 a1 3 ([.int .i64 x123.1, .int .i64 x123.2.1, .int .i64 x123.2.2]) <| keelsonref1_SegAt (x123.1, x123.2.1, x123.2.2) a H125 fun y129 H128 => j89 (y126 == y129) H128) (j89 false H85))
        fun j84 => mIf s78 (mLdR (fun (x : (Int × Int × Int)) => [.int .i64 x.1, .int .i64 x.2.1, .int .i64 x.2.2]) H80 a1 3 fun x130 => geom_Geom_Page (some ga) over a b H80 fun y133 H132 => mSameA H132 a1 3 ([.int .i64 x130.1, .int .i64 x130.2.1, .int .i64 x130.2.2]) <| keelsonref1_PageAt (x130.1, x130.2.1, x130.2.2) over a b H132 fun y136 H135 => j84 (y133 == y136) H135) (j84 false H80))
        fun j79 => mIf (y74 == y76) (mLdR (fun (x : (Int × Int × Int)) => [.int .i64 x.1, .int .i64 x.2.1, .int .i64 x.2.2]) H75 a1 3 fun x137 => geom_Geom_Region (some ga) a H75 fun y140 H139 => mSameA H139 a1 3 ([.int .i64 x137.1, .int .i64 x137.2.1, .int .i64 x137.2.2]) <| keelsonref1_RegionAt (x137.1, x137.2.1, x137.2.2) a H139 fun y143 H142 => j79 (y140 == y143) H142) (j79 false H75)))
        fun j69 => mIf s63 (j69 true H65) (mLdR (fun (x : (Int × Int × Int)) => [.int .i64 x.1, .int .i64 x.2.1, .int .i64 x.2.2]) H65 a1 3 fun x144 => geom_Geom_Sectors (some ga) H65 fun y147 H146 => mSameA H146 a1 3 ([.int .i64 x144.1, .int .i64 x144.2.1, .int .i64 x144.2.2]) <| keelsonref1_Sectors (x144.1, x144.2.1, x144.2.2) H146 fun y150 H149 => j69 (y147 != y150) H149))
        fun j64 => mIf s58 (j64 true H60) (mLdR (fun (x : (Int × Int × Int)) => [.int .i64 x.1, .int .i64 x.2.1, .int .i64 x.2.2]) H60 a1 3 fun x151 => geom_Geom_RegionLen (some ga) H60 fun y154 H153 => mSameA H153 a1 3 ([.int .i64 x151.1, .int .i64 x151.2.1, .int .i64 x151.2.2]) <| keelsonref1_RegionLen (x151.1, x151.2.1, x151.2.2) H153 fun y157 H156 => j64 (y154 != y157) H156))
        fun j59 => mIf s53 (j59 true H55) (mLdR (fun (x : (Int × Int × Int)) => [.int .i64 x.1, .int .i64 x.2.1, .int .i64 x.2.2]) H55 a1 3 fun x158 => geom_Geom_Pages (some ga) H55 fun y161 H160 => mSameA H160 a1 3 ([.int .i64 x158.1, .int .i64 x158.2.1, .int .i64 x158.2.2]) <| keelsonref1_Pages (x158.1, x158.2.1, x158.2.2) H160 fun y164 H163 => j59 (y161 != y164) H163))
        fun j54 => mIf s48 (j54 true H50) (j54 (y3 != y3) H50))
        fun j49 => mIf (y1 != y1) (j49 true H6) (j49 (y2 != y2) H6) := by
      intro H6 x6 y1 y2 y3
      have ne : ∀ y : Int, (y != y) = false := fun y => by simp
      have eq : ∀ y : Int, (y == y) = true := fun y => by simp
      have r6 := r5.ext x6
      have g6 := g5.ext x6
      have xH6 := x15.trans x6
      refine mJoin_intro (mIf_neg (ne _) ?_)
      rw [ne]
      refine mJoin_intro (mIf_neg rfl ?_)
      rw [show (y3 != y3) = false by simp]
      refine mJoin_intro (mIf_neg rfl (ldr_row (x := c) r6 rfl (pages_spec g6 hc fun H7 x7 => ⟨(r6.ext x7).all rfl, rpages hc fun H8 x8 => ?_⟩)))
      rw [ne]
      have x68 := x7.trans x8
      refine mJoin_intro (mIf_neg rfl (ldr_row (x := c) (r6.ext x68) rfl (rlen_spec (g6.ext x68) hc ⟨(r6.ext x68).all rfl, rrlen hc fun H9 x9 => ?_⟩)))
      rw [ne]
      have x69 := x68.trans x9
      refine mJoin_intro (mIf_neg rfl (ldr_row (x := c) (r6.ext x69) rfl (all_spec (g6.ext x69) hc fun H10 x10 => ⟨(r6.ext (x69.trans x10)).all rfl, rsectors hc fun H11 x11 => ?_⟩)))
      rw [ne]
      have x611 := (x69.trans x10).trans x11
      refine mIf_neg rfl (super_any (g6.ext x611) (rsuper ?_))
      rw [eq]
      refine mJoin_intro (mIf_pos rfl (ldr_row (x := c) (r6.ext x611) rfl (region_any (g6.ext x611) hc ⟨(r6.ext x611).all rfl, rregion hc fun H12 x12 => ?_⟩)))
      rw [eq]
      have x612 := x611.trans x12
      refine mJoin_intro (mIf_pos rfl (ldr_row (x := c) (r6.ext x612) rfl (page_any (g6.ext x612) hc fun H13 x13 => ⟨(r6.ext (x612.trans x13)).all rfl, rpage hc fun H14 x14 => ?_⟩)))
      rw [eq]
      have x614 := (x612.trans x13).trans x14
      refine mJoin_intro (mIf_pos rfl (ldr_row (x := c) (r6.ext x614) rfl (seg_spec (g6.ext x614) hc fun H15 x15 => ⟨(r6.ext (x614.trans x15)).all rfl, rseg hc fun H16 x16 => ?_⟩)))
      rw [show ((if 0 ≤ a ∧ a < c.2.1 then base c + a * c.2.2 else -1) == segAt c a) = true from eq (segAt c a)]
      have x616 := (x614.trans x15).trans x16
      refine mJoin_intro (mIf_pos rfl (ldr_row (x := c) (r6.ext x616) rfl (half_spec (g6.ext x616) hc ⟨(r6.ext x616).all rfl, rhalf hc fun H17 x17 => ?_⟩)))
      rw [eq]
      have x617 := x616.trans x17
      refine mJoin_intro (mIf_pos rfl (ldr_row (x := c) (r6.ext x617) rfl (share_spec (g6.ext x617) hc ⟨(r6.ext x617).all rfl, rshare hc fun H18 x18 => ?_⟩)))
      rw [eq]
      exact mJoin_intro (mIf_pos rfl (hawake H18 ((xH6.trans x617).trans x18)))
    split
    · rename_i hin
      refine ldr_row (x := c) r5 rfl (rwhere hc ha fun H6 x6 => ?_)
      rw [if_pos hin]; exact rest H6 x6 _ _ _
    · rename_i hin
      refine ldr_row (x := c) r5 rfl (rwhere hc ha fun H6 x6 => ?_)
      rw [if_neg hin]; exact rest H6 x6 _ _ _
  · refine new_no hc fun H2 x2 => ldr_row (x := c) (r1.ext x2) rfl (rmay fun H3 bb x3 hb => ?_)
    have hbf : bb = false := by cases bb with | false => rfl | true => exact absurd (hb.1 rfl) hc
    subst hbf
    exact mIf_pos rfl (mJoin_intro (mIf_pos rfl (mJoin_intro (mIf_pos rfl (hawake H3 ((x1.trans x2).trans x3))))))
end Go.Proofs.Ytdadhppapenjkaa

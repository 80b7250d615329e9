/- geometry as the document has it: printed by usgw.py. -/
import Derived.Test.YtinjkdoikljakaaVicF
set_option linter.unusedVariables false
set_option linter.unusedSimpArgs false
namespace Go.Proofs.Ytinjkdoikljakaa
open Go Go.Kx
def segAt (c : Cfg) (s : Int) : Int := if 0 ≤ s ∧ s < c.2.1 then base c + s * c.2.2 else -1
theorem rup {H : PH} {n by' : Int} {Q : Int → PH → Prop} (h0 : 0 ≤ n) (h1 : n ≤ 2 ^ 40) (h2 : 1 ≤ by') (h3 : by' ≤ 2 ^ 40) (hQ : Q ((n + by' - 1) / by') H) : keelsonref1_Up n by' H Q := by
  refine ⟨by omega, ?_⟩
  rw [wrap64_id (x := n + by') (by omega) (by omega), wrap64_id (x := n + by' - 1) (by omega) (by omega), Int.tdiv_eq_ediv_of_nonneg (by omega)]
  have a1 : 0 ≤ (n + by' - 1) / by' := Int.ediv_nonneg (by omega) (by omega)
  have a2 : (n + by' - 1) / by' ≤ n + by' - 1 := Int.ediv_le_self _ (by omega)
  rw [wrap64_id (by omega) (by omega)]; exact hQ
theorem rrlen {H : PH} {c : Cfg} {Q : Int → PH → Prop} (hc : CfgOk c) (hQ : ∀ H', Ext H H' → Q (rlen c) H') : keelsonref1_RegionLen c H Q := by
  obtain ⟨h1, h2, h3, h4, h5, h6⟩ := hc
  refine new_row fun a1 H1 x1 r1 _ => ld_row (x := c.2.1) r1 rfl ?_
  rw [wrap64_id (x := 5 * c.2.1) (by omega) (by omega), wrap64_id (x := 43 + 5 * c.2.1) (by omega) (by omega)]
  refine rup (by omega) (by omega) (by decide) (by decide) ?_
  have : (43 + 5 * c.2.1 + 64 - 1) / 64 = rlen c := by simp only [rlen]; omega
  rw [this]; exact hQ H1 x1
theorem rpages {H : PH} {c : Cfg} {Q : Int → PH → Prop} (hc : CfgOk c) (hQ : ∀ H', Ext H H' → Q (pgs c) H') : keelsonref1_Pages c H Q := by
  obtain ⟨h1, h2, h3, h4, h5, h6⟩ := hc
  refine new_row fun a1 H1 x1 r1 _ => ld_row (x := c.1) r1 rfl (rup (by omega) (by omega) (by decide) (by decide) ?_)
  have : (c.1 + 15 - 1) / 15 = pgs c := by simp only [pgs]; omega
  rw [this]; exact hQ H1 x1
theorem rseg {H : PH} {c : Cfg} {s : Int} {Q : Int → PH → Prop} (hc : CfgOk c) (hQ : ∀ H', Ext H H' → Q (segAt c s) H') : keelsonref1_SegAt c s H Q := by
  have h3 := hc.2.2.1
  have h4 := hc.2.2.2.1
  have h5 := hc.2.2.2.2.1
  have h6 := hc.2.2.2.2.2
  have hb := base_le hc
  have hbase : base c = 2 + 2 * (rlen c + 2 * pgs c) := rfl
  have hl := rlen_le hc
  have hp := pgs_le hc
  refine new_row fun a1 H1 x1 r1 _ => ld_row (x := c.2.1) r1 rfl ?_
  rw [wrap64_id (x := c.2.1 - 1) (by omega) (by omega)]
  refine rwithin (mIf_intro (fun e => ?_) (fun e => ?_))
  · have := hQ H1 x1
    rw [segAt, if_neg (by simp at e; omega)] at this; exact this
  · have hs : 0 ≤ s ∧ s < c.2.1 := by simp at e; omega
    refine ldr_row (x := c) r1 rfl (ldr_row (x := c) r1 rfl (ld_row (x := c.2.2) r1 rfl (rrlen hc fun H2 x2 => same_row (r1.ext x2) rfl ⟨(r1.ext x2).all rfl, rpages hc fun H3 x3 => same_row (r1.ext (x2.trans x3)) rfl ?_⟩)))
    have hm := mul_le hs.1 (show s ≤ 32 by omega) (show 0 ≤ c.2.2 by omega) h6
    rw [wrap64_id (x := 2 * rlen c) (by omega) (by omega), wrap64_id (x := 2 + 2 * rlen c) (by omega) (by omega), wrap64_id (x := 4 * pgs c) (by omega) (by omega), wrap64_id (x := 2 + 2 * rlen c + 4 * pgs c) (by omega) (by omega), wrap64_id (x := s * c.2.2) (by omega) (by omega), wrap64_id (by omega) (by omega)]
    have := hQ H3 ((x1.trans x2).trans x3)
    rw [segAt, if_pos hs] at this
    rw [show 2 + 2 * rlen c + 4 * pgs c + s * c.2.2 = base c + s * c.2.2 by omega]; exact this
theorem seg0 {c : Cfg} (hc : CfgOk c) : segAt c 0 = base c := by
  have h3 := hc.2.2.1
  rw [segAt, if_pos ⟨by omega, by omega⟩]; omega
theorem rwhere {H : PH} {c : Cfg} {a : Int} {Q : Int → Int → Bool → PH → Prop} (hc : CfgOk c) (ha : a ≤ 9223372036854775807)
    (hQ : ∀ H', Ext H H' → if base c ≤ a ∧ a < all c then Q ((a - base c) / c.2.2) ((a - base c) % c.2.2) true H' else Q 0 0 false H') : keelsonref1_Where c a H Q := by
  have hb := base_le hc
  have hp := prod_le hc
  have h5 := hc.2.2.2.2.1
  have hall : all c = base c + c.2.1 * c.2.2 := rfl
  refine new_row fun a1 H1 x1 r1 _ => ldr_row (x := c) r1 rfl (rseg hc fun H2 x2 => ldr_row (x := c) (r1.ext x2) rfl (rseg hc fun H3 x3 => ?_))
  rw [seg0 hc]
  have r3 := r1.ext (x2.trans x3)
  have := hQ H3 ((x1.trans x2).trans x3)
  refine mJoin_intro (mIf_intro (fun e => ?_) (fun e => ld_row (x := c.2.1) r3 rfl (ld_row (x := c.2.2) r3 rfl ?_)))
  · rw [if_neg (by simp at e; omega)] at this; exact mIf_pos rfl this
  · have ha0 : base c ≤ a := by simpa using e
    rw [wrap64_id (x := c.2.1 * c.2.2) (by omega) (by omega), wrap64_id (x := a - base c) (by omega) (by omega)]
    refine mIf_intro (fun e2 => ?_) (fun e2 => ?_)
    · rw [if_neg (by simp at e2; omega)] at this; exact this
    · have ha1 : a < all c := by simp at e2; omega
      rw [if_pos ⟨ha0, ha1⟩] at this
      refine ld_row (x := c.2.2) r3 rfl ⟨by omega, ld_row (x := c.2.2) r3 rfl ⟨by omega, ?_⟩⟩
      rw [Int.tdiv_eq_ediv_of_nonneg (by omega), Int.tmod_eq_emod_of_nonneg (by omega)]
      have a1 : 0 ≤ (a - base c) / c.2.2 := Int.ediv_nonneg (by omega) (by omega)
      have a2 : (a - base c) / c.2.2 ≤ a - base c := Int.ediv_le_self _ (by omega)
      rw [wrap64_id (by omega) (by omega)]; exact this
theorem rhalf {H : PH} {c : Cfg} {Q : Int → PH → Prop} (hc : CfgOk c) (hQ : ∀ H', Ext H H' → Q (half c) H') : keelsonref1_Half c H Q := by
  have hh := half_le hc
  obtain ⟨h1, h2, h3, h4, h5, h6⟩ := hc
  refine new_row fun a1 H1 x1 r1 _ => ld_row (x := c.2.2) r1 rfl ?_
  rw [wrap64_id (x := c.2.2 - 2) (by omega) (by omega), Int.tdiv_eq_ediv_of_nonneg (by omega), wrap64_id (by simp only [half] at hh; omega) (by simp only [half] at hh; omega)]
  exact hQ H1 x1
end Go.Proofs.Ytinjkdoikljakaa

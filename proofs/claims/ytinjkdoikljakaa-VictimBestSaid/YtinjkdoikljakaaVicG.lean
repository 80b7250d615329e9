/- WHAT THE FUNCTIONS OF geom DO. -/
import Derived.Test.YtinjkdoikljakaaFn
import Derived.Test.YtinjkdoikljakaaKxZ
set_option linter.unusedVariables false
set_option linter.unusedSimpArgs false
namespace Go.Proofs.Ytinjkdoikljakaa
open Go Go.Kx

abbrev Cfg := Int × Int × Int
abbrev cfgL (c : Cfg) : List Value := [.int .i64 c.1, .int .i64 c.2.1, .int .i64 c.2.2]
/-- What may be. -/
def CfgOk (c : Cfg) : Prop := 1 ≤ c.1 ∧ c.1 ≤ 64 ∧ 8 ≤ c.2.1 ∧ c.2.1 ≤ 32 ∧ 24 ≤ c.2.2 ∧ c.2.2 ≤ 64
/-- A Geom of these numbers. -/
def Gm (H : PH) (p : Option Addr) (c : Cfg) : Prop := ∃ a, p = some a ∧ RowAt H a (cfgL c)
theorem Gm.ext {A B : PH} {p : Option Addr} {c : Cfg} (h : Gm A p c) (x : Ext A B) : Gm B p c := let ⟨a, h1, h2⟩ := h; ⟨a, h1, h2.ext x⟩

theorem mod_spec {H : PH} {x m : Int} {Q : Int → PH → Prop} (hm : 0 < m) (hm2 : m < 2 ^ 62) (hQ : Q (x % m) H) : keelsonref1_Mod x m H Q := by
  refine ⟨by omega, mJoin_intro (mIf_intro (fun hc => ?_) (fun hc => ?_))⟩
  · have h1 : x.tmod m < 0 := by simpa using hc
    have h2 := Int.lt_tmod_of_pos x hm
    have e : x.tmod m + m = x % m := by
      have h3 := Int.tmod_eq_emod (a := x) (b := m)
      have h4 := Int.emod_nonneg x (by omega : m ≠ 0)
      have h5 := Int.emod_lt_of_pos x hm
      split at h3 <;> omega
    rw [wrap64_id (by omega) (by omega), e]; exact hQ
  · have h1 : ¬ x.tmod m < 0 := by simpa using hc
    have e : x.tmod m = x % m := by
      have h3 := Int.tmod_eq_emod (a := x) (b := m)
      have h4 := Int.emod_nonneg x (by omega : m ≠ 0)
      have h5 := Int.emod_lt_of_pos x hm
      split at h3 <;> omega
    rw [e]; exact hQ
theorem round_spec {H : PH} {x m : Int} {Q : Int → PH → Prop} (hm : 0 < m) (hm2 : m < 2 ^ 62) (hQ : Q (x % m) H) : keelsonalike_Round x m H Q := mod_spec hm hm2 hQ

/-- The configuration of three numbers. -/
def cfgOf (l : Cfg) : Cfg := (1 + l.1 % 64, 8 + l.2.1 % 25, 24 + l.2.2 % 41)
theorem cfgOf_ok (l : Cfg) : CfgOk (cfgOf l) := by
  have h1 := Int.emod_nonneg l.1 (by decide : (64 : Int) ≠ 0)
  have h2 := Int.emod_lt_of_pos l.1 (by decide : (0 : Int) < 64)
  have h3 := Int.emod_nonneg l.2.1 (by decide : (25 : Int) ≠ 0)
  have h4 := Int.emod_lt_of_pos l.2.1 (by decide : (0 : Int) < 25)
  have h5 := Int.emod_nonneg l.2.2 (by decide : (41 : Int) ≠ 0)
  have h6 := Int.emod_lt_of_pos l.2.2 (by decide : (0 : Int) < 41)
  simp only [CfgOk, cfgOf]; omega
theorem config_spec {H : PH} {l : Cfg} {Q : Cfg → PH → Prop} (hQ : ∀ H', Ext H H' → Q (cfgOf l) H') : keelsonalike_Config l false H Q := by
  refine new_row fun a1 H1 x1 r1 _ => new_row fun a2 H2 x2 r2 f2 => mIf_neg rfl ?_
  have r1' := r1.ext x2
  refine idxA_row (by decide) (by decide) (ld_row (x := l.1) r1' rfl ?_)
  refine idxA_row (by decide) (by decide) (ld_row (x := l.2.1) r1' rfl ?_)
  refine idxA_row (by decide) (by decide) (ld_row (x := l.2.2) r1' rfl ?_)
  refine round_spec (by decide) (by decide) (same_row r1' rfl (same_row r1' rfl ?_))
  refine round_spec (by decide) (by decide) (same_row r1' rfl ?_)
  refine round_spec (by decide) (by decide) ?_
  refine st_row r2 rfl rfl fun H3 r3 k3 => ?_
  have ok := cfgOf_ok l
  simp only [CfgOk, cfgOf] at ok
  rw [wrap64_id (by omega) (by omega), wrap64_id (by omega) (by omega), wrap64_id (by omega) (by omega)] at r3
  refine ldr_row (x := cfgOf l) r3 rfl (hQ H3 ?_)
  exact (x1.trans x2).keepB k3 (x1.none f2)

theorem within_spec {H : PH} {a lo hi : Int} {Q : Bool → PH → Prop} (hQ : Q (decide (lo ≤ a) && decide (a ≤ hi)) H) : geom_within a lo hi H Q :=
  mJoin_intro (mIf_intro (fun h => by rw [h, Bool.true_and] at hQ; exact hQ) (fun h => by rw [h, Bool.false_and] at hQ; exact hQ))

theorem new_yes {H : PH} {c : Cfg} {Q : Option Addr → Int → PH → Prop} (hc : CfgOk c) (hQ : ∀ p H', Ext H H' → Gm H' p c → Q p 0 H') : geom_New c H Q := by
  obtain ⟨h1, h2, h3, h4, h5, h6⟩ := hc
  have w : ∀ {x lo hi : Int}, lo ≤ x → x ≤ hi → (decide (lo ≤ x) && decide (x ≤ hi)) = true := fun h h' => by simp [h, h']
  refine new_row fun a1 H1 x1 r1 _ => ld_row (x := c.1) r1 rfl (within_spec ?_)
  rw [w h1 h2]
  refine mJoin_intro (mIf_neg rfl (ld_row (x := c.2.1) r1 rfl (within_spec ?_)))
  rw [w h3 h4]
  refine mJoin_intro (mIf_neg rfl (ld_row (x := c.2.2) r1 rfl (within_spec ?_)))
  rw [w h5 h6]
  refine mIf_neg rfl (ldr_row (x := c) r1 rfl (new_row fun a2 H2 x2 r2 _ => hQ _ _ (x1.trans x2) ⟨a2, rfl, r2⟩))
theorem new_no {H : PH} {c : Cfg} {Q : Option Addr → Int → PH → Prop} (hc : ¬ CfgOk c) (hQ : ∀ H', Ext H H' → Q none 1 H') : geom_New c H Q := by
  refine new_row fun a1 H1 x1 r1 _ => ld_row (x := c.1) r1 rfl (within_spec ?_)
  refine mJoin_intro (mIf_intro (fun _ => mJoin_intro (mIf_pos rfl (mIf_pos rfl (hQ _ x1)))) (fun e1 => ld_row (x := c.2.1) r1 rfl (within_spec ?_)))
  refine mJoin_intro (mIf_intro (fun _ => mIf_pos rfl (hQ _ x1)) (fun e2 => ld_row (x := c.2.2) r1 rfl (within_spec ?_)))
  refine mIf_intro (fun _ => hQ _ x1) (fun e3 => absurd ?_ hc)
  simp at e1 e2 e3
  simp only [CfgOk]; omega

/-! ### What lies where, in numbers -/
def pgs (c : Cfg) : Int := (c.1 + 14) / 15
def rlen (c : Cfg) : Int := (c.2.1 * 5 + 106) / 64
def base (c : Cfg) : Int := 2 + 2 * (rlen c + 2 * pgs c)
def all (c : Cfg) : Int := base c + c.2.1 * c.2.2
def half (c : Cfg) : Int := (c.2.2 - 2) / 2
def share (c : Cfg) : Int := (c.2.1 - 3) * (half c + 1) - 1
theorem pgs_le {c : Cfg} (h : CfgOk c) : 1 ≤ pgs c ∧ pgs c ≤ 5 := by obtain ⟨h1, h2, h3, h4, h5, h6⟩ := h; simp only [pgs]; omega
theorem rlen_le {c : Cfg} (h : CfgOk c) : 2 ≤ rlen c ∧ rlen c ≤ 4 := by obtain ⟨h1, h2, h3, h4, h5, h6⟩ := h; simp only [rlen]; omega
theorem base_le {c : Cfg} (h : CfgOk c) : 10 ≤ base c ∧ base c ≤ 30 := by have := pgs_le h; have := rlen_le h; simp only [base]; omega
theorem mul_le {a b A B : Int} (h0 : 0 ≤ a) (h1 : a ≤ A) (h2 : 0 ≤ b) (h3 : b ≤ B) : 0 ≤ a * b ∧ a * b ≤ A * B :=
  ⟨Int.mul_nonneg h0 h2, Int.mul_le_mul h1 h3 h2 (Int.le_trans h0 h1)⟩
theorem prod_le {c : Cfg} (h : CfgOk c) : 0 ≤ c.2.1 * c.2.2 ∧ c.2.1 * c.2.2 ≤ 32 * 64 := by obtain ⟨h1, h2, h3, h4, h5, h6⟩ := h; exact mul_le (by omega) h4 (by omega) h6
theorem half_le {c : Cfg} (h : CfgOk c) : 11 ≤ half c ∧ half c ≤ 31 := by obtain ⟨h1, h2, h3, h4, h5, h6⟩ := h; simp only [half]; omega

theorem up_spec {H : PH} {n by' : Int} {Q : Int → PH → Prop} (h0 : 0 ≤ n) (h1 : n ≤ 2 ^ 40) (h2 : 1 ≤ by') (h3 : by' ≤ 2 ^ 40) (hQ : Q ((n + by' - 1) / by') H) : geom_up n by' H Q := by
  refine ⟨by omega, ?_⟩
  rw [wrap64_id (x := n + by') (by omega) (by omega), wrap64_id (x := n + by' - 1) (by omega) (by omega), Int.tdiv_eq_ediv_of_nonneg (by omega)]
  have a1 : 0 ≤ (n + by' - 1) / by' := Int.ediv_nonneg (by omega) (by omega)
  have a2 : (n + by' - 1) / by' ≤ n + by' - 1 := Int.ediv_le_self _ (by omega)
  rw [wrap64_id (by omega) (by omega)]; exact hQ
theorem cfg_spec {H : PH} {p : Option Addr} {c : Cfg} {Q : Cfg → PH → Prop} (hg : Gm H p c) (hQ : ∀ H', Ext H H' → Q c H') : geom_Geom_Config p H Q := by
  obtain ⟨a, rfl, hr⟩ := hg
  refine new_row fun a1 H1 x1 r1 f1 => mIf_neg rfl (nil_some (ldr_row0 (x := c) (hr.ext x1) rfl ?_))
  exact st_row r1 rfl rfl fun H3 r3 k3 => ldr_row (x := c) r3 rfl (hQ H3 (x1.keepB k3 f1))
theorem pages_spec {H : PH} {p : Option Addr} {c : Cfg} {Q : Int → PH → Prop} (hg : Gm H p c) (hc : CfgOk c) (hQ : ∀ H', Ext H H' → Q (pgs c) H') : geom_Geom_Pages p H Q := by
  refine cfg_spec hg fun H1 x1 => up_spec (by have := hc.1; omega) (by have := hc.2.1; omega) (by decide) (by decide) ?_
  have : (c.1 + 15 - 1) / 15 = pgs c := by simp only [pgs]; omega
  rw [this]; exact hQ H1 x1
theorem rlen_spec {H : PH} {p : Option Addr} {c : Cfg} {Q : Int → PH → Prop} (hg : Gm H p c) (hc : CfgOk c) (hQ : Q (rlen c) H) : geom_Geom_RegionLen p H Q := by
  obtain ⟨a, rfl, hr⟩ := hg
  obtain ⟨h1, h2, h3, h4, h5, h6⟩ := hc
  refine mIf_neg rfl (nil_some (ld_row0 (x := c.2.1) hr rfl ?_))
  rw [wrap64_id (x := 5 * c.2.1) (by omega) (by omega), wrap64_id (x := 43 + 5 * c.2.1) (by omega) (by omega)]
  refine up_spec (by omega) (by omega) (by decide) (by decide) ?_
  have : (43 + 5 * c.2.1 + 64 - 1) / 64 = rlen c := by simp only [rlen]; omega
  rw [this]; exact hQ
theorem has_spec {H : PH} {p : Option Addr} {c : Cfg} {s : Int} {Q : Bool → PH → Prop} (hg : Gm H p c) (hc : CfgOk c) (hQ : Q (decide (0 ≤ s) && decide (s ≤ c.2.1 - 1)) H) : geom_Geom_Has p s H Q := by
  obtain ⟨a, rfl, hr⟩ := hg
  obtain ⟨h1, h2, h3, h4, h5, h6⟩ := hc
  refine mJoin_intro (mIf_pos rfl (nil_some (ld_row0 (x := c.2.1) hr rfl ?_)))
  rw [wrap64_id (x := c.2.1 - 1) (by omega) (by omega)]
  exact within_spec hQ
theorem segs_spec {H : PH} {p : Option Addr} {c : Cfg} {Q : Int → PH → Prop} (hg : Gm H p c) (hc : CfgOk c) (hQ : ∀ H', Ext H H' → Q (base c) H') : geom_Geom_segs p H Q := by
  refine rlen_spec hg hc (pages_spec hg hc fun H1 x1 => ?_)
  have h1 := pgs_le hc
  have h2 := rlen_le hc
  rw [wrap64_id (x := 2 * pgs c) (by omega) (by omega), wrap64_id (x := rlen c + 2 * pgs c) (by omega) (by omega), wrap64_id (x := 2 * (rlen c + 2 * pgs c)) (by omega) (by omega), wrap64_id (x := 2 + 2 * (rlen c + 2 * pgs c)) (by omega) (by omega)]
  exact hQ H1 x1
theorem seg_spec {H : PH} {p : Option Addr} {c : Cfg} {s : Int} {Q : Int → PH → Prop} (hg : Gm H p c) (hc : CfgOk c) (hQ : ∀ H', Ext H H' → Q (if 0 ≤ s ∧ s < c.2.1 then base c + s * c.2.2 else -1) H') : geom_Geom_Seg p s H Q := by
  refine has_spec hg hc (mIf_intro (fun e => ?_) (fun e => ?_))
  · have := hQ H (.refl _)
    rw [if_neg (by simp at e; omega)] at this; exact this
  · have hs : 0 ≤ s ∧ s < c.2.1 := by simp at e; omega
    obtain ⟨a, rfl, hr⟩ := hg
    refine nil_some (ld_row0 (x := c.2.2) hr rfl (segs_spec ⟨a, rfl, hr⟩ hc fun H1 x1 => same_row0 (hr.ext x1) rfl ?_))
    have hb := base_le hc
    have hp := mul_le hs.1 (show s ≤ 32 by have := hc.2.2.2.1; omega) (show 0 ≤ c.2.2 by have := hc.2.2.2.2.1; omega) hc.2.2.2.2.2
    rw [wrap64_id (x := s * c.2.2) (by omega) (by omega), wrap64_id (by omega) (by omega)]
    have := hQ H1 x1
    rwa [if_pos hs] at this
theorem all_spec {H : PH} {p : Option Addr} {c : Cfg} {Q : Int → PH → Prop} (hg : Gm H p c) (hc : CfgOk c) (hQ : ∀ H', Ext H H' → Q (all c) H') : geom_Geom_Sectors p H Q := by
  obtain ⟨a, rfl, hr⟩ := hg
  refine mIf_neg rfl (nil_some (ld_row0 (x := c.2.1) hr rfl (nil_some (ld_row0 (x := c.2.2) hr rfl (segs_spec ⟨a, rfl, hr⟩ hc fun H1 x1 => same_row0 (hr.ext x1) rfl (same_row0 (hr.ext x1) rfl ?_))))))
  have hb := base_le hc
  have hp := prod_le hc
  rw [wrap64_id (x := c.2.1 * c.2.2) (by omega) (by omega), wrap64_id (by omega) (by omega)]
  exact hQ H1 x1
theorem half_spec {H : PH} {p : Option Addr} {c : Cfg} {Q : Int → PH → Prop} (hg : Gm H p c) (hc : CfgOk c) (hQ : Q (half c) H) : geom_Geom_Half p H Q := by
  obtain ⟨a, rfl, hr⟩ := hg
  have hh := half_le hc
  obtain ⟨h1, h2, h3, h4, h5, h6⟩ := hc
  refine mIf_neg rfl (nil_some (ld_row0 (x := c.2.2) hr rfl ?_))
  rw [wrap64_id (x := c.2.2 - 2) (by omega) (by omega), Int.tdiv_eq_ediv_of_nonneg (by omega), wrap64_id (by simp only [half] at hh; omega) (by simp only [half] at hh; omega)]
  exact hQ
theorem where_spec {H : PH} {p : Option Addr} {c : Cfg} {at' : Int} {Q : Int → Int → Bool → PH → Prop} (hg : Gm H p c) (hc : CfgOk c)
    (hQ : ∀ H', Ext H H' → if base c ≤ at' ∧ at' < all c then Q ((at' - base c) / c.2.2) ((at' - base c) % c.2.2) true H' else Q 0 0 false H') : geom_Geom_Where p at' H Q := by
  obtain ⟨a, rfl, hr⟩ := hg
  have hb := base_le hc
  have hp := prod_le hc
  refine mJoin_intro (mIf_neg rfl (segs_spec ⟨a, rfl, hr⟩ hc fun H1 x1 => all_spec ⟨a, rfl, hr.ext x1⟩ hc fun H2 x2 => ?_))
  have hall : all c = base c + c.2.1 * c.2.2 := rfl
  rw [wrap64_id (x := all c - 1) (by omega) (by omega)]
  refine within_spec (mIf_intro (fun e => ?_) (fun e => ?_))
  · have := hQ H2 (x1.trans x2)
    rw [if_neg (by simp at e; omega)] at this; exact this
  · have hs : base c ≤ at' ∧ at' < all c := by simp at e; omega
    refine segs_spec ⟨a, rfl, hr.ext (x1.trans x2)⟩ hc fun H3 x3 => ?_
    have x13 := (x1.trans x2).trans x3
    have h5 := hc.2.2.2.2.1
    refine nil_some (ld_row0 (x := c.2.2) (hr.ext x13) rfl ⟨by omega, nil_some (ld_row0 (x := c.2.2) (hr.ext x13) rfl ⟨by omega, ?_⟩)⟩)
    have := hQ H3 x13
    rw [if_pos hs] at this
    rw [wrap64_id (x := at' - base c) (by omega) (by omega), Int.tdiv_eq_ediv_of_nonneg (by omega), Int.tmod_eq_emod_of_nonneg (by omega)]
    have a1 : 0 ≤ (at' - base c) / c.2.2 := Int.ediv_nonneg (by omega) (by omega)
    have a2 : (at' - base c) / c.2.2 ≤ at' - base c := Int.ediv_le_self _ (by omega)
    rw [wrap64_id (by omega) (by omega)]; exact this
end Go.Proofs.Ytinjkdoikljakaa

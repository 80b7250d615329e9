/- THE LAW GeomCovers, on formulas. -/
import Derived.Test.YtdadhppapenjkaaGeomB
set_option linter.unusedVariables false
set_option linter.unusedSimpArgs false
namespace Go.Proofs.Ytdadhppapenjkaa
open Go Go.Kx

theorem super_spec {H : PH} {p : Option Addr} {c : Cfg} {s : Int} {Q : Int → PH → Prop} (hg : Gm H p c) (h0 : 0 ≤ s) (h1 : s ≤ 1) (hQ : Q s H) : geom_Geom_Super p s H Q := by
  obtain ⟨a, rfl, hr⟩ := hg
  refine mJoin_intro (mIf_neg rfl (within_spec ?_))
  have e : (decide (0 ≤ s) && decide (s ≤ 1)) = true := by simp [h0, h1]
  rw [e]; exact mIf_neg rfl hQ
theorem region_spec {H : PH} {p : Option Addr} {c : Cfg} {s : Int} {Q : Int → PH → Prop} (hg : Gm H p c) (hc : CfgOk c) (h0 : 0 ≤ s) (h1 : s ≤ 1) (hQ : ∀ A, (s = 0 ∧ A = 2) ∨ (s = 1 ∧ A = 2 + rlen c) → Q A H) : geom_Geom_Region p s H Q := by
  obtain ⟨a, rfl, hr⟩ := hg
  refine mJoin_intro (mIf_neg rfl (within_spec ?_))
  have e : (decide (0 ≤ s) && decide (s ≤ 1)) = true := by simp [h0, h1]
  rw [e]
  refine mIf_neg rfl (rlen_spec ⟨a, rfl, hr⟩ hc ?_)
  have hl := rlen_le hc
  rcases (by omega : s = 0 ∨ s = 1) with rfl | rfl
  · rw [wrap64_id (x := 0 * rlen c) (by omega) (by omega), wrap64_id (by omega) (by omega)]; exact hQ _ (.inl ⟨rfl, by omega⟩)
  · rw [wrap64_id (x := 1 * rlen c) (by omega) (by omega), wrap64_id (by omega) (by omega)]; exact hQ _ (.inr ⟨rfl, by omega⟩)
theorem page_spec {H : PH} {p : Option Addr} {c : Cfg} {over : Bool} {s g : Int} {Q : Int → PH → Prop} (hg : Gm H p c) (hc : CfgOk c) (h0 : 0 ≤ s) (h1 : s ≤ 1) (g0 : 0 ≤ g) (g1 : g < pgs c)
    (hQ : ∀ H', Ext H H' → Q (2 + 2 * (rlen c + g + (if over then pgs c else 0)) + s) H') : geom_Geom_Page p over g s H Q := by
  obtain ⟨a, rfl, hr⟩ := hg
  refine mJoin_intro (mIf_neg rfl (within_spec ?_))
  have e : (decide (0 ≤ s) && decide (s ≤ 1)) = true := by simp [h0, h1]
  rw [e]
  have hl := rlen_le hc
  have hp := pgs_le hc
  refine mJoin_intro (mIf_neg rfl (pages_spec ⟨a, rfl, hr⟩ hc fun H1 x1 => within_spec ?_))
  rw [wrap64_id (x := pgs c - 1) (by omega) (by omega)]
  have e2 : (decide (0 ≤ g) && decide (g ≤ pgs c - 1)) = true := by simp; omega
  rw [e2]
  have gm1 : Gm H1 (some a) c := ⟨a, rfl, hr.ext x1⟩
  refine mIf_neg rfl (mJoin_intro (mIf_intro (fun ho => pages_spec gm1 hc fun H2 x2 => rlen_spec (gm1.ext x2) hc ?_) (fun ho => rlen_spec gm1 hc ?_)))
  · subst ho
    rw [wrap64_id (x := g + pgs c) (by omega) (by omega), wrap64_id (x := rlen c + (g + pgs c)) (by omega) (by omega), wrap64_id (x := 2 * (rlen c + (g + pgs c))) (by omega) (by omega), wrap64_id (x := 2 + 2 * (rlen c + (g + pgs c))) (by omega) (by omega), wrap64_id (by omega) (by omega)]
    have := hQ H2 (x1.trans x2)
    rw [if_pos rfl, Int.add_assoc (rlen c)] at this; exact this
  · subst ho
    rw [wrap64_id (x := rlen c + g) (by omega) (by omega), wrap64_id (x := 2 * (rlen c + g)) (by omega) (by omega), wrap64_id (x := 2 + 2 * (rlen c + g)) (by omega) (by omega), wrap64_id (by omega) (by omega)]
    have := hQ H1 x1
    rw [if_neg (by decide), Int.add_zero] at this; exact this

/-- A list of N counts: one where P holds, else none. -/
def Cv (l : List Int) (N : Nat) (P : Nat → Prop) : Prop := l.length = N ∧ ∀ i, i < N → (P i ∧ l[i]? = some 1) ∨ (¬ P i ∧ l[i]? = some 0)
theorem Cv.iff {l : List Int} {N : Nat} {P P' : Nat → Prop} (h : Cv l N P) (he : ∀ i, i < N → (P i ↔ P' i)) : Cv l N P' :=
  ⟨h.1, fun i hi => (h.2 i hi).imp (fun ⟨a, b⟩ => ⟨(he i hi).1 a, b⟩) (fun ⟨a, b⟩ => ⟨fun h => a ((he i hi).2 h), b⟩)⟩

theorem takes_spec {H0 H : PH} {r : Sl} {l : List Int} {N : Nat} {P : Nat → Prop} {a k : Int} {Q : Bool → PH → Prop} (x : Ext H0 H) (own : Own0 H0 r) (hv : Vec (Value.int .i64) H r l) (hc : Cv l N P) (hN : N ≤ 4096) (h0 : 0 ≤ a) (h1 : 1 ≤ k) (h2 : a + k ≤ N)
    (hd : ∀ i : Nat, a ≤ i → (i : Int) < a + k → ¬ P i) (hQ : ∀ H' l', Ext H0 H' → Vec (Value.int .i64) H' r l' → Cv l' N (fun i => P i ∨ (a ≤ (i : Int) ∧ (i : Int) < a + k)) → Q true H') : keelsonlaw4_takes r a k H Q := by
  have hlen : (r.len : Int) = N := by rw [hv.list.1, hc.1]
  have f1 : decide (a < 0) = false := by simp; omega
  have f2 : decide (k < 1) = false := by simp; omega
  have f3 : decide ((r.len : Int) < k) = false := by simp; omega
  have f4 : decide (IntKind.wrap .i64 ((r.len : Int) - k) < a) = false := by rw [wrap64_id (by omega) (by omega)]; simp; omega
  refine mJoin_intro (mIf_neg f1 ?_)
  rw [f2]
  refine mJoin_intro (mIf_neg rfl ?_)
  rw [f3]
  refine mJoin_intro (mIf_neg rfl ?_)
  rw [f4]
  refine mIf_neg rfl ?_
  obtain ⟨K, rfl⟩ := Int.eq_ofNat_of_zero_le (show 0 ≤ k by omega)
  obtain ⟨A, rfl⟩ := Int.eq_ofNat_of_zero_le h0
  refine mLoop_count K (fun j s H1 => s = ((A + j : Nat) : Int) ∧ Ext H0 H1 ∧ ∃ l', Vec (Value.int .i64) H1 r l' ∧ Cv l' N (fun i => P i ∨ (A ≤ i ∧ i < A + j))) ⟨rfl, x, l, hv, hc.iff fun i _ => ⟨.inl, fun h => h.resolve_right (by omega)⟩⟩ ?_
  rintro j s H1 again hj ⟨rfl, x1, l', v1, c1⟩ hag
  rw [wrap64_id (x := (A : Int) + K) (by omega) (by omega)]
  refine mIf_intro (fun hlt => ?_) (fun hge => ?_)
  · have hjK : j < K := by simp at hlt; omega
    refine idx_ld v1.list (by omega) (by rw [c1.1]; omega) fun y hy => ?_
    simp only [Int.toNat_natCast] at hy
    have hy0 : y = 0 := by
      rcases c1.2 (A + j) (by omega) with ⟨h, _⟩ | ⟨_, h⟩
      · exact absurd (h.resolve_right (by omega)) (hd _ (by omega) (by omega))
      · rw [hy] at h; simpa using h
    subst hy0
    refine put_vec (x := IntKind.wrap .i64 (0 + 1)) v1 (by omega) (by rw [c1.1]; omega) rfl fun H2 v2 k2 => hag hjK _ _ ⟨?_, x1.keep k2 own, _, v2, ?_⟩
    · rw [wrap64_id (by omega) (by omega)]; push_cast; omega
    · refine ⟨by simp [c1.1], fun i hi => ?_⟩
      simp only [Int.toNat_natCast]
      by_cases hiA : i = A + j
      · subst hiA
        refine .inl ⟨.inr (by omega), ?_⟩
        rw [List.getElem?_set_self (by rw [c1.1]; omega)]; rfl
      · rw [List.getElem?_set_ne (fun e => hiA e.symm)]
        rcases c1.2 i hi with ⟨h, h'⟩ | ⟨h, h'⟩
        · exact .inl ⟨h.imp id (fun h => by omega), h'⟩
        · exact .inr ⟨fun hh => h (hh.imp id fun h => by omega), h'⟩
  · have : j = K := by simp at hge; omega
    subst this
    exact hQ H1 l' x1 v1 (c1.iff fun i _ => by constructor <;> intro h <;> exact h.imp id fun h => by omega)

/-- What the first t slots take. -/
def CovT (c : Cfg) (t : Int) (i : Nat) : Prop := (i : Int) < base c ∧ (((i : Int) < 2 ∧ (i : Int) < t) ∨ (2 ≤ (i : Int) ∧ (i : Int) < 2 + rlen c ∧ 1 ≤ t) ∨ (2 + rlen c ≤ (i : Int) ∧ (i : Int) < 2 + 2 * rlen c ∧ 2 ≤ t) ∨ (2 + 2 * rlen c ≤ (i : Int) ∧ (i : Int) % 2 < t))
/-- And the superblock and the region of slot t, and its first p pages of both tables. -/
def CovP (c : Cfg) (t p : Int) (i : Nat) : Prop := CovT c t i ∨ (i : Int) = t ∨ (t = 0 ∧ 2 ≤ (i : Int) ∧ (i : Int) < 2 + rlen c) ∨ (t = 1 ∧ 2 + rlen c ≤ (i : Int) ∧ (i : Int) < 2 + 2 * rlen c) ∨
  (2 + 2 * rlen c ≤ (i : Int) ∧ (i : Int) < base c ∧ (i : Int) % 2 = t ∧ (((i : Int) - 2 - 2 * rlen c) / 2 < p ∨ (pgs c ≤ ((i : Int) - 2 - 2 * rlen c) / 2 ∧ ((i : Int) - 2 - 2 * rlen c) / 2 < pgs c + p)))

set_option maxHeartbeats 2000000 in
theorem covers_law {H : PH} {l : Cfg} : keelsonlaw4_GeomCovers l H (DoneG H) := by
  have ok := cfgOf_ok l
  refine start_spec fun a p H1 x1 r1 g1 => ?_
  generalize cfgOf l = c at *
  have h3 := ok.2.2.1
  have h4 := ok.2.2.2.1
  have h5 := ok.2.2.2.2.1
  have h6 := ok.2.2.2.2.2
  have hb := base_le ok
  have hpr := prod_le ok
  have hrl := rlen_le ok
  have hpg := pgs_le ok
  have hbase : base c = 2 + 2 * (rlen c + 2 * pgs c) := rfl
  have hall : all c = base c + c.2.1 * c.2.2 := rfl
  obtain ⟨ga, rfl, gr⟩ := g1
  have g1 : Gm H1 (some ga) c := ⟨ga, rfl, gr⟩
  refine mJoin_intro (mIf_neg rfl (mJoin_intro (mIf_neg rfl (all_spec g1 ok fun H2 x2 => ?_))))
  have g2 := g1.ext x2
  have e1 : decide (all c < 1) = false := by simp; omega
  rw [e1]
  refine mJoin_intro (mIf_neg rfl (all_spec g2 ok fun H3 x3 => ?_))
  have g3 := g2.ext x3
  have e2 : decide (4096 < all c) = false := by simp; omega
  rw [e2]
  refine mIf_neg rfl (all_spec g3 ok fun H4 x4 => ?_)
  have g4 := g3.ext x4
  have x14 := ((x1.trans x2).trans x3).trans x4
  have r4 := r1.ext ((x2.trans x3).trans x4)
  obtain ⟨N, hN⟩ := Int.eq_ofNat_of_zero_le (show 0 ≤ all c by omega)
  refine mk_vec (enc := Value.int .i64) (by omega) (by omega) fun r H5 x5 own v5 => ?_
  have c5 : Cv (List.replicate (all c).toNat 0) N (CovT c 0) := ⟨by simp [hN], fun i hi => .inr ⟨by simp only [CovT]; omega, by rw [hN, Int.toNat_natCast, List.getElem?_replicate, if_pos hi]⟩⟩
  -- the slots
  refine mLoop_count 2 (fun t s Hs => s = (false, (t : Int)) ∧ Ext H4 Hs ∧ ∃ l', Vec (Value.int .i64) Hs r l' ∧ Cv l' N (CovT c t)) ⟨rfl, x5, _, v5, c5⟩ ?_
  rintro t s H6 again ht ⟨rfl, x6, l6, v6, c6⟩ hag
  refine mIf_intro (fun hlt => ?_) (fun hge => ?_)
  · have ht2 : t < 2 := by simp at hlt; omega
    refine mJoin_intro (mIf_neg rfl (super_spec (g4.ext x6) (by simp) (by first | omega | (dsimp only; omega)) ?_))
    refine takes_spec x6 own v6 c6 (by omega) (by simp) (by decide) (by first | omega | (dsimp only; omega)) (fun i hi1 hi2 => by dsimp only at hi1 hi2; simp only [CovT]; omega) fun H7 l7 x7 v7 c7 => ?_
    refine mJoin_intro (mIf_neg rfl (region_spec (g4.ext x7) ok (by simp) (by first | omega | (dsimp only; omega)) fun A hA => rlen_spec (g4.ext x7) ok ?_))
    refine takes_spec x7 own v7 c7 (by omega) (by omega) (by omega) (by omega) (fun i hi1 hi2 => by dsimp only at hA ⊢; simp only [CovT]; omega) fun H8 l8 x8 v8 c8 => ?_
    have c8' : Cv l8 N (CovP c t 0) := c8.iff fun i hi => by
      dsimp only at hA ⊢
      simp only [CovP, CovT]
      constructor <;> intro h <;> omega
    obtain ⟨PG, hPG⟩ := Int.eq_ofNat_of_zero_le (show 0 ≤ pgs c by omega)
    refine mLoop_count PG (fun k s Hs => s = (false, (k : Int)) ∧ Ext H4 Hs ∧ ∃ l', Vec (Value.int .i64) Hs r l' ∧ Cv l' N (CovP c t k)) ⟨rfl, x8, _, v8, c8'⟩ ?_
    rintro k s H9 again2 hk ⟨rfl, x9, l9, v9, c9⟩ hag2
    refine pages_spec (g4.ext x9) ok fun H10 x10 => mIf_intro (fun hlt2 => ?_) (fun hge2 => ?_)
    · have hkP : k < PG := by simp at hlt2; omega
      have x10' := x9.trans x10
      refine mJoin_intro (mIf_neg rfl (page_spec (g4.ext x10') ok (by simp) (by first | omega | (dsimp only; omega)) (by simp) (by first | omega | (dsimp only; omega)) fun H11 x11 => ?_))
      have x11' := x10'.trans x11
      simp only [Bool.false_eq_true, if_false]
      refine takes_spec x11' own (v9.ext (x10.trans x11)) c9 (by omega) (by omega) (by decide) (by omega) (fun i hi1 hi2 => by simp only [CovP, CovT]; omega) fun H12 l12 x12 v12 c12 => ?_
      refine mJoin_intro (mIf_neg rfl (page_spec (g4.ext x12) ok (by simp) (by first | omega | (dsimp only; omega)) (by simp) (by first | omega | (dsimp only; omega)) fun H13 x13 => ?_))
      simp only [if_true]
      refine takes_spec (x12.trans x13) own (v12.ext x13) c12 (by omega) (by omega) (by decide) (by omega) (fun i hi1 hi2 => by simp only [CovP, CovT]; omega) fun H14 l14 x14' v14 c14 => ?_
      refine hag2 hkP _ _ ⟨?_, x14', l14, v14, c14.iff fun i hi => ?_⟩
      · rw [wrap64_id (by omega) (by omega)]; push_cast; rfl
      · simp only [CovP, CovT]; push_cast
        constructor <;> intro h <;> omega
    · have : k = PG := by simp at hge2; omega
      subst this
      refine hag ht2 _ _ ⟨?_, x9.trans x10, l9, v9.ext x10, c9.iff fun i hi => ?_⟩
      · rw [wrap64_id (by omega) (by omega)]; push_cast; rfl
      · simp only [CovP, CovT]; push_cast
        constructor <;> intro h <;> omega
  · have : t = 2 := by simp at hge; omega
    subst this
    -- the segments
    obtain ⟨SG, hSG⟩ := Int.eq_ofNat_of_zero_le (show 0 ≤ c.2.1 by omega)
    have c6' : Cv l6 N (fun i => (i : Int) < base c + (0 : Nat) * c.2.2) := c6.iff fun i hi => by
      simp only [CovT]; constructor <;> intro h <;> omega
    refine mLoop_count SG (fun k s Hs => s = (false, (k : Int)) ∧ Ext H4 Hs ∧ ∃ l', Vec (Value.int .i64) Hs r l' ∧ Cv l' N (fun i => (i : Int) < base c + (k : Nat) * c.2.2)) ⟨rfl, x6, _, v6, c6'⟩ ?_
    rintro k s H7 again2 hk ⟨rfl, x7, l7, v7, c7⟩ hag2
    refine ld_row (x := c.2.1) (r4.ext x7) rfl (mIf_intro (fun hlt2 => ?_) (fun hge2 => ?_))
    · have hkS : k < SG := by simp at hlt2; omega
      have hkn : (k : Int) * c.2.2 + c.2.2 ≤ c.2.1 * c.2.2 := by
        have : ((k : Int) + 1) * c.2.2 ≤ c.2.1 * c.2.2 := Int.mul_le_mul_of_nonneg_right (by omega) (by omega)
        rw [Int.add_mul, Int.one_mul] at this; exact this
      have hk0 : 0 ≤ (k : Int) * c.2.2 := Int.mul_nonneg (by omega) (by omega)
      refine mJoin_intro (mIf_neg rfl (ld_row (x := c.2.2) (r4.ext x7) rfl (seg_spec (g4.ext x7) ok fun H8 x8 => same_row (r4.ext (x7.trans x8)) rfl ?_)))
      rw [if_pos ⟨by simp, by dsimp only; omega⟩]
      refine takes_spec (x7.trans x8) own (v7.ext x8) c7 (by omega) (by first | omega | (dsimp only; omega)) (by omega) (by first | omega | (dsimp only; omega)) (fun i hi1 hi2 => by dsimp only at hi1 ⊢; omega) fun H9 l9 x9 v9 c9 => ?_
      refine hag2 hkS _ _ ⟨?_, x9, l9, v9, c9.iff fun i hi => ?_⟩
      · rw [wrap64_id (by omega) (by omega)]; push_cast; rfl
      · dsimp only; push_cast; rw [Int.add_mul, Int.one_mul]
        constructor <;> intro h <;> omega
    · have : k = SG := by simp at hge2; omega
      subst this
      -- all of them
      have c7' : ∀ i, i < N → l7[i]? = some 1 := fun i hi => by
        rcases c7.2 i hi with ⟨_, h⟩ | ⟨h, _⟩
        · exact h
        · exact absurd (show (i : Int) < base c + (k : Nat) * c.2.2 by rw [← hSG]; omega) h
      have hlen : (r.len : Int) = N := by rw [v7.list.1, c7.1]
      refine mLoop_count N (fun j s Hs => s = (false, (j : Int)) ∧ Hs = H7) ⟨rfl, rfl⟩ ?_
      rintro j s H8 again3 hj ⟨rfl, rfl⟩ hag3
      refine mIf_intro (fun hlt3 => ?_) (fun hge3 => ?_)
      · have hjN : j < N := by simp at hlt3; omega
        refine mJoin_intro (mIf_neg rfl (idx_ld v7.list (by simp) (by rw [c7.1]; dsimp only; omega) fun y hy => ?_))
        simp only [Int.toNat_natCast] at hy
        rw [c7' j hjN] at hy
        obtain rfl : 1 = y := by simpa using hy
        refine hag3 hjN _ _ ⟨?_, rfl⟩
        rw [wrap64_id (by omega) (by omega)]; push_cast; rfl
      · exact mJoin_intro (mIf_pos rfl (awake_spec fun H9 x9 => ⟨rfl, (x14.trans x7).trans x9⟩))
end Go.Proofs.Ytdadhppapenjkaa

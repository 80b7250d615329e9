/- THE LAW VictimOrders, on formulas. -/
import Derived.Test.YtinjkdoikljakaaVicE
set_option linter.unusedVariables false
set_option linter.unusedSimpArgs false
namespace Go.Proofs.Ytinjkdoikljakaa
open Go Go.Kx
section
variable {H : PH}
theorem rbetter_spec {a b : X3} {Q : Bool → PH → Prop} (hQ : ∀ H', Ext H H' → Q (betterB a b) H') : keelsonref11_Better a b H Q := by
  refine new_row fun a1 H1 x1 r1 _ => new_row fun a2 H2 x2 r2 f2 => ?_
  have r1' : RowAt H2 a1 (encX a) := r1.ext x2
  have r2' : RowAt H2 a2 (encX b) := r2
  have q := hQ H2 (x1.trans x2)
  have i0 : ∀ {a : Addr} {K : Addr → Prop}, K (a.add 0) → mIdxA 3 a 1 0 K := fun h => idxA_row (by decide) (by decide) h
  have i1 : ∀ {a : Addr} {K : Addr → Prop}, K (a.add 1) → mIdxA 3 a 1 1 K := fun h => idxA_row (by decide) (by decide) h
  have i2 : ∀ {a : Addr} {K : Addr → Prop}, K (a.add 2) → mIdxA 3 a 1 2 K := fun h => idxA_row (by decide) (by decide) h
  refine i0 (ld_row (x := a.1) r1' rfl (i0 (ld_row (x := b.1) r2' rfl (mIf_intro (fun c => ?_) (fun c => ?_)))))
  · have c' : a.1 ≠ b.1 := by simpa using c
    rw [betterB, if_pos c'] at q
    exact i0 (ld_row (x := a.1) r1' rfl (i0 (ld_row (x := b.1) r2' rfl q)))
  · have c' : ¬ a.1 ≠ b.1 := by simpa using c
    rw [betterB, if_neg c'] at q
    refine i1 (ld_row (x := a.2.1) r1' rfl (i1 (ld_row (x := b.2.1) r2' rfl (mIf_intro (fun c1 => ?_) (fun c1 => ?_)))))
    · have c1' : a.2.1 ≠ b.2.1 := by simpa using c1
      rw [if_pos c1'] at q
      exact i1 (ld_row (x := a.2.1) r1' rfl (i1 (ld_row (x := b.2.1) r2' rfl q)))
    · have c1' : ¬ a.2.1 ≠ b.2.1 := by simpa using c1
      rw [if_neg c1'] at q
      exact i2 (ld_row (x := a.2.2) r1' rfl (i2 (ld_row (x := b.2.2) r2' rfl q)))
theorem better_irr (a : X3) : betterB a a = false := by simp [betterB]
theorem better_tot {a b : X3} (h : a ≠ b) : betterB a b = !(betterB b a) := by
  unfold betterB
  by_cases h1 : a.1 ≠ b.1
  · rw [if_pos h1, if_pos (fun e => h1 e.symm), ← decide_not]
    exact decide_eq_decide.2 (by omega)
  · have k1 : ¬ b.1 ≠ a.1 := fun e => h1 fun e2 => e e2.symm
    simp only [if_neg h1, if_neg k1]
    by_cases h2 : a.2.1 ≠ b.2.1
    · have k2 : b.2.1 ≠ a.2.1 := fun e => h2 e.symm
      simp only [if_pos h2, if_pos k2]
      rw [← decide_not]
      exact decide_eq_decide.2 (by omega)
    · have k2 : ¬ b.2.1 ≠ a.2.1 := fun e => h2 fun e2 => e e2.symm
      simp only [if_neg h2, if_neg k2]
      rw [← decide_not]
      have h3 : a.2.2 ≠ b.2.2 := fun e => h (Prod.ext (Decidable.not_not.1 h1) (Prod.ext (Decidable.not_not.1 h2) e))
      exact decide_eq_decide.2 (by omega)
theorem better_trans {a b c : X3} (h1 : betterB a b = true) (h2 : betterB b c = true) : betterB a c = true := by
  obtain ⟨a1, a2, a3⟩ := a
  obtain ⟨b1, b2, b3⟩ := b
  obtain ⟨c1, c2, c3⟩ := c
  simp only [betterB] at h1 h2 ⊢
  split at h1 <;> split at h2 <;> split <;> (try split at h1) <;> (try split at h2) <;> (try split) <;> simp_all <;> omega
theorem orders_law {p0 p1 p2 : X3} : keelsonlaw19_VictimOrders p0 p1 p2 H (DoneD H) := by
  refine new_row fun a1 H1 x1 r1 _ => new_row fun a2 H2 x2 r2 _ => new_row fun a3 H3 x3 r3 _ => ?_
  have x03 : Ext H H3 := (x1.trans x2).trans x3
  have ra : RowAt H3 a1 (encX p0) := (r1.ext x2).ext x3
  have rb : RowAt H3 a2 (encX p1) := r2.ext x3
  have rc : RowAt H3 a3 (encX p2) := r3
  have la : ∀ {H'} {K : X3 → Prop}, Ext H3 H' → K p0 → mLdR (fun (x : (Int × Int × Int)) => [.int .i64 x.1, .int .i64 x.2.1, .int .i64 x.2.2]) H' a1 3 K := fun x h => ldr_row (x := p0) (ra.ext x) rfl h
  have lb : ∀ {H'} {K : X3 → Prop}, Ext H3 H' → K p1 → mLdR (fun (x : (Int × Int × Int)) => [.int .i64 x.1, .int .i64 x.2.1, .int .i64 x.2.2]) H' a2 3 K := fun x h => ldr_row (x := p1) (rb.ext x) rfl h
  have lc : ∀ {H'} {K : X3 → Prop}, Ext H3 H' → K p2 → mLdR (fun (x : (Int × Int × Int)) => [.int .i64 x.1, .int .i64 x.2.1, .int .i64 x.2.2]) H' a3 3 K := fun x h => ldr_row (x := p2) (rc.ext x) rfl h
  have rowc : ∀ {H' : PH} {a : Addr} {x : X3}, RowAt H' a (encX x) → cellsAt H' a 3 = some (encX x) := by
    intro H' a x r
    obtain ⟨e1, e2, e, e3⟩ := r
    have ea : a = ⟨a.block, 0, none⟩ := by cases a; simp_all
    rw [ea, cellsAt_of_row e3 (by show 0 + 3 ≤ 3; decide)]; rfl
  have z := Ext.refl H3
  refine la z (lb z (la z (lb z (better_spec fun H4 x4 => ⟨rowc (rb.ext x4), rowc (ra.ext x4), rbetter_spec fun H5 x5 => ?_⟩))))
  have x35 := x4.trans x5
  refine mJoin_intro (mIf_neg (by simp) (la x35 (la x35 (better_spec fun H6 x6 => ?_))))
  have x36 := x35.trans x6
  rw [better_irr]
  refine mIf_neg rfl (la x36 (lb x36 (mJoin_cut (fun b Hk => b = false ∧ Ext H3 Hk) ?_ fun k' hk' => ?_)))
  · skip
    rintro _ H7 ⟨rfl, x7⟩
    refine mIf_neg rfl ?_
    have wake : ∀ H8, Ext H3 H8 → mJoin (fun (s57 : Bool) (H59 : PH) => DoneD H s57 H59) fun j58 => mIf true (keelsonlaw19_awake H8 fun y62 H61 => j58 y62 H61) (j58 false H8) := fun H8 x8 => mJoin_intro (mIf_pos rfl (awake_spec fun H9 x9 => ⟨rfl, x03.trans (x8.trans x9)⟩))
    refine la x7 (lb x7 (better_spec fun H8 x8 => mJoin_intro (mIf_intro (fun _ => mJoin_intro (mIf_pos rfl (wake H8 (x7.trans x8)))) (fun c1 => ?_))))
    have x38 := x7.trans x8
    refine lb x38 (lc x38 (better_spec fun H9 x9 => mJoin_intro (mIf_intro (fun _ => wake H9 (x38.trans x9)) (fun c2 => ?_))))
    have x39 := x38.trans x9
    refine la x39 (lc x39 (better_spec fun H10 x10 => ?_))
    have e : betterB p0 p2 = true := better_trans (b := p1) (by simpa using c1) (by simpa using c2)
    rw [e]
    exact wake H10 (x39.trans x10)
  refine mIf_intro (fun c1 => la x36 (lb x36 (lb x36 (la x36 (better_spec fun H7 x7 => ⟨rowc ((ra.ext x36).ext x7), rowc ((rb.ext x36).ext x7), better_spec fun H8 x8 => ?_⟩))))) (fun _ => hk' _ _ ⟨rfl, x36⟩)
  have hne : p0 ≠ p1 := fun e => by subst e; simp [andAll] at c1
  have e : (betterB p0 p1 == betterB p1 p0) = false := by rw [better_tot hne]; cases betterB p1 p0 <;> rfl
  exact hk' _ _ ⟨e, x36.trans (x7.trans x8)⟩
end
end Go.Proofs.Ytinjkdoikljakaa

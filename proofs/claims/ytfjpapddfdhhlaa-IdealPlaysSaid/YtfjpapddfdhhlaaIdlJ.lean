/- ideal: the document's own device: Do. -/
import Derived.Test.YtfjpapddfdhhlaaIdlI
set_option linter.unusedVariables false
set_option linter.unusedSimpArgs false
namespace Go.Proofs.Ytfjpapddfdhhlaa
open Go Go.Kx
section
variable {H B : PH} {R : List Ob} {a : Addr} {S : Ids} {n : Nat} {K : Int}
theorem st_ep' {v : Int} {Q : PH → Prop} (h : IdS H B a S R) (hQ : ∀ H', IdS H' B a { S with ep := v } R → Q H') : mSt H (a.add 2) [.int .i64 v] Q := by
  obtain ⟨sb, so, lb, lo, fb, fo, h⟩ := h
  exact S_st h 1 rfl (by simp [idRow]) rfl fun H3 h3 => hQ H3 ⟨sb, so, lb, lo, fb, fo, h3⟩
theorem st_sq' {v : Int} {Q : PH → Prop} (h : IdS H B a S R) (hQ : ∀ H', IdS H' B a { S with sq := v } R → Q H') : mSt H (a.add 3) [.int .i64 v] Q := by
  obtain ⟨sb, so, lb, lo, fb, fo, h⟩ := h
  exact S_st h 1 rfl (by simp [idRow]) rfl fun H3 h3 => hQ H3 ⟨sb, so, lb, lo, fb, fo, h3⟩
theorem st_dn' {v : Int} {Q : PH → Prop} (h : IdS H B a S R) (hQ : ∀ H', IdS H' B a { S with dn := v } R → Q H') : mSt H (a.add 4) [.int .i64 v] Q := by
  obtain ⟨sb, so, lb, lo, fb, fo, h⟩ := h
  exact S_st h 1 rfl (by simp [idRow]) rfl fun H3 h3 => hQ H3 ⟨sb, so, lb, lo, fb, fo, h3⟩
theorem ld_sq' {Q : Int → Prop} (h : IdS H B a S R) (hQ : Q S.sq) : mLd (.int .i64) H (a.add 3) Q := by
  obtain ⟨sb, so, lb, lo, fb, fo, h⟩ := h
  exact ld_row (x := S.sq) (h.get 1 rfl : RowAt H a (idRow sb so S)) rfl hQ
theorem rmark_loop {E : PH → Prop} (h : IdS H B a S R) (ok : IdOk n S) (hQ : ∀ H', IdS H' B a (mkTo S n) R → E H') :
    mLoop (fun (s145 : Int) (H148 : PH) (again146 : Int → PH → Prop) =>
  mNil (some a) fun a149 =>
  mLd Sl.v H148 (a149.add 0) fun x151 =>
  mIf (decide (s145 < (x151.len : Int)))
  (mJoin (fun (s154 : Unit) (H156 : PH) =>
  again146 (IntKind.wrap .i64 (s145 + 1)) H156)
  fun j155 =>
  mNil (some a) fun a158 =>
  mLd Sl.v H148 (a158.add 1) fun x160 =>
  mIdx x160 1 s145 fun a162 =>
  mLd Sl.v H148 a162 fun x164 =>
  mIf (!(Option.isNone x164.a))
  (mNil (some a) fun a167 =>
  mLd Sl.v H148 (a167.add 0) fun x169 =>
  mNil (some a) fun a171 =>
  mLd Sl.v H148 (a171.add 1) fun x173 =>
  mIdx x173 1 s145 fun a175 =>
  mLd Sl.v H148 a175 fun x177 =>
  mIdx x169 1 s145 fun a179 =>
  mSt H148 a179 ([Sl.v x177]) fun H181 =>
  mNil (some a) fun a183 =>
  mLd Sl.v H181 (a183.add 1) fun x185 =>
  mIdx x185 1 s145 fun a187 =>
  mSt H181 a187 ([Sl.v Sl.nil]) fun H189 =>
  j155 () H189)
  (j155 () H148))
  (E H148))
  0 H := by
  have hn := ok.le
  refine mLoop_count n (fun k st Hk => st = (k : Int) ∧ IdS Hk B a (mkTo S k) R) ⟨rfl, h⟩ ?_
  clear h
  rintro k st H1 again hk ⟨rfl, sb, so, lb, lo, fb, fo, h1⟩ hag
  obtain ⟨m1, m2, m3, m4, m5⟩ := mk_len S k
  have ob := ok.b; have oo := ok.o
  have hr : RowAt H1 a (idRow sb so (mkTo S k)) := h1.get 1 rfl
  have eb := fb.len; have eo := fo.len
  have hl : (sb.len : Int) = n := by rw [(h1.list (enc := Sl.v) 2 rfl).lenI]; omega
  refine nil_some (ld_row (x := sb) hr rfl ?_)
  rw [hl]
  refine mIf_intro (fun c => ?_) (fun c => ?_)
  · have hkn : k < n := by simpa using c
    refine mJoin_intro (nil_some (ld_row (x := so) hr rfl (idx_ld (h1.list (enc := Sl.v) 3 rfl) (by omega) (by omega) fun x hx => ?_)))
    rw [Int.toNat_natCast] at hx
    obtain ⟨s', v, hs', hv, hbk⟩ := fo.get (i := k) (by omega)
    rw [hx] at hs'; cases hs'
    have hv' : (mkTo S k).over.getD k none = v := by simp [List.getD, hv]
    rw [hbk.isNone]
    have ag : ∀ H', IdS H' B a (mkTo S (k + 1)) R → again (IntKind.wrap .i64 ((k : Int) + 1)) H' := fun H' h' => by
      rw [wrap_succ (by omega)]; exact hag hkn _ _ ⟨rfl, h'⟩
    refine mIf_intro (fun c1 => ?_) (fun c1 => ?_)
    · have c1' : v.isNone = false := by simpa using c1
      refine nil_some (ld_row (x := sb) hr rfl (nil_some (ld_row (x := so) hr rfl (idx_ld (h1.list (enc := Sl.v) 3 rfl) (by omega) (by omega) fun x' hx' => ?_))))
      rw [Int.toNat_natCast, hx] at hx'; cases hx'
      refine S_put (enc := Sl.v) (x := x) h1 2 rfl (by omega) (by omega) rfl fun H2 h2 => ?_
      have hr2 : RowAt H2 a (idRow sb so (mkTo S k)) := h2.get 1 rfl
      refine nil_some (ld_row (x := so) hr2 rfl (S_put (enc := Sl.v) (x := Sl.nil) h2 3 rfl (by omega) (by omega) rfl fun H3 h3 => ag H3 ?_))
      rw [mkTo, hv', if_neg (by rw [c1']; decide)]
      exact ⟨sb, so, lb.set k x, lo.set k Sl.nil, fb.set hbk k, fo.set (x := none) rfl k, h3⟩
    · have c1' : v.isNone = true := by simpa using c1
      refine ag H1 ?_
      rw [mkTo, hv', if_pos c1']
      exact ⟨sb, so, lb, lo, fb, fo, h1⟩
  · have hkn : k = n := by simp at c; omega
    subst hkn
    exact hQ H1 ⟨sb, so, lb, lo, fb, fo, h1⟩
theorem rdo_spec {o : Int × Int × Int × Int × Sl} {d : List Int} {Q : Bool → PH → Prop} (h : IdS H B a S R) (ok : IdOk n S) (sm : Sm K S) (hK : K < 2 ^ 40) (hd : Bytes B o.2.2.2.2 d)
    (hQ : ∀ B' H', Ext B B' → IdS H' B' a (if mayS n S.ep o.1 o.2.1 o.2.2.1 o.2.2.2.1 d.length then doS n S o.1 o.2.1 o.2.2.1 o.2.2.2.1 d else S) R → Q (mayS n S.ep o.1 o.2.1 o.2.2.1 o.2.2.2.1 d.length) H') : keelsonref22_Ideal_Do (some a) o H Q := by
  obtain ⟨sb, so, lb, lo, fb, fo, h⟩ := h
  obtain ⟨k, b, c, e, s⟩ := o
  simp only at hd hQ
  refine F_row h fun a1 B1 H1 x1 r1 h1 => ⟨(k, b, c, e, s), (r1.ext h1.base).all rfl, ?_⟩
  refine rmay_spec (o := (k, b, c, e, s)) (IdS.up fb fo x1 h1) ok sm hK (hd.ext (x1.trans h1.base)) fun B2 H2 x2 h2 => ?_
  clear h1
  simp only
  by_cases hm : mayS n S.ep k b c e d.length = true
  rotate_left
  · have hm' : mayS n S.ep k b c e d.length = false := by simpa using hm
    rw [hm'] at hQ ⊢
    exact mIf_pos rfl (hQ B2 H2 (x1.trans x2) h2)
  rw [hm] at hQ ⊢
  rw [if_pos rfl] at hQ
  have hc := may_cases hm
  have r2 := r1.ext x2
  obtain ⟨⟨g1, g2⟩, ⟨g3, g4⟩, _⟩ := id sm
  refine mIf_neg rfl (ld_row (x := k) (r2.ext h2.ext) rfl ?_)
  refine mJoin_cut (fun _ Hk => ∃ B', Ext B2 B' ∧ IdS Hk B' a { doS n S k b c e d with sq := S.sq, dn := S.dn } R) ?_ ?_
  · rintro _ H3 ⟨B3, x3, h3⟩
    have xx := x1.trans (x2.trans x3)
    have r3 := r2.ext x3
    refine ld_row (x := k) (r3.ext h3.ext) rfl ?_
    refine mJoin_cut (fun s Hk => s = decide (k = 1 ∨ k = 2) ∧ Hk = H3) ?_ ?_
    rotate_left
    · intro j19 hj
      refine mIf_intro (fun c1 => hj _ _ ⟨?_, rfl⟩) (fun c1 => ld_row (x := k) (r3.ext h3.ext) rfl (hj _ _ ⟨?_, rfl⟩))
      · rw [decide_eq_true (.inl (by simpa using c1))]
      · have c1' : ¬ k = 1 := by simpa using c1
        simp [c1', Bool.beq_eq_decide_eq]
    rintro _ H3 ⟨rfl, rfl⟩
    refine mJoin_cut (fun s Hk => s = decide (k = 1 ∨ k = 2 ∨ k = 3) ∧ Hk = H3) ?_ ?_
    rotate_left
    · intro j24 hj
      refine mIf_intro (fun c1 => hj _ _ ⟨?_, rfl⟩) (fun c1 => ld_row (x := k) (r3.ext h3.ext) rfl (hj _ _ ⟨?_, rfl⟩))
      · have c1' : k = 1 ∨ k = 2 := by simpa using c1
        rw [decide_eq_true (by omega)]
      · have c1' : ¬ (k = 1 ∨ k = 2) := by simpa using c1
        rw [Bool.beq_eq_decide_eq]
        exact decide_eq_decide.2 (by omega)
    rintro _ H3 ⟨rfl, rfl⟩
    refine mIf_intro (fun c1 => ?_) (fun c1 => ?_)
    · have c1' : k = 1 ∨ k = 2 ∨ k = 3 := of_decide_eq_true c1
      refine nil_some (ld_sq' h3 (nil_some ?_))
      simp only
      rw [wrap64_id (x := S.sq + 1) (by omega) (by omega)]
      refine st_sq' h3 fun H4 h4 => ld_row (x := k) (r3.ext h4.ext) rfl (mJoin_intro (mIf_intro (fun c2 => ?_) (fun c2 => hQ B3 H4 xx ?_)))
      · have k3 : k = 3 := by simpa using c2
        refine nil_some (ld_sq' h4 (nil_some (st_dn' h4 fun H5 h5 => hQ B3 H5 xx ?_)))
        subst k3
        have ed : doS n S 3 b c e d = { mkTo S n with ep := e, sq := S.sq + 1, dn := S.sq + 1 } := by
          rw [doS, if_neg (by decide), if_neg (by decide), if_pos rfl]
        rw [ed] at h5 ⊢; exact h5
      · have k3 : ¬ k = 3 := by simpa using c2
        have e1 : doS n S k b c e d = { doS n S k b c e d with sq := S.sq + 1, dn := S.dn } := by
          unfold doS
          by_cases k1 : k = 1
          · rw [if_pos k1]
          · rw [if_neg k1, if_pos (by omega)]
        rw [e1]; exact h4
    · have c1' : ¬ (k = 1 ∨ k = 2 ∨ k = 3) := of_decide_eq_false c1
      refine ld_row (x := k) (r3.ext h3.ext) rfl (mJoin_intro (mIf_neg (by simp; omega) (hQ B3 H3 xx ?_)))
      have e1 : doS n S k b c e d = { doS n S k b c e d with sq := S.sq, dn := S.dn } := by
        unfold doS
        rw [if_neg (by omega), if_neg (by omega), if_neg (by omega)]
        by_cases k5 : k = 5
        · rw [if_pos k5]
        · rw [if_neg k5]
      rw [e1]; exact h3
  intro j12 hj
  have ob := ok.b; have oo := ok.o; have hn := ok.le
  have hd2 := hd.ext (x1.trans x2)
  refine mIf_intro (fun c1 => ?_) (fun c1 => mIf_intro (fun c5 => ?_) (fun c5 => ?_))
  · have k1 : k = 1 := by simpa using c1
    have hc' : 0 ≤ b ∧ b < n ∧ d.length = 64 := by omega
    obtain ⟨sb, so, lb, lo, fb, fo, h2⟩ := h2
    have hr : RowAt H2 a (idRow sb so S) := h2.get 1 rfl
    refine nil_some (ld_row (x := so) hr rfl (ld_row (x := b) (r2.ext h2.base) rfl (ld_row (x := s) (r2.ext h2.base) rfl (part_spec h2 (hd2.ext h2.base) hc'.2.2 fun z B3 H3 x3 hz h3 => ?_))))
    have hr3 : RowAt H3 a (idRow sb so S) := h3.get 1 rfl
    have eo := fo.len
    refine same_row ((r2.ext x3).ext h3.base) rfl (same_row hr3 rfl (S_put (enc := Sl.v) (x := z) h3 3 rfl hc'.1 (by omega) rfl fun H4 h4 => hj _ _ ⟨B3, x3, ?_⟩))
    have ed : doS n S k b c e d = { S with over := S.over.set b.toNat (some d), sq := S.sq + 1 } := by
      rw [doS, if_pos k1]; rfl
    rw [ed]
    exact ⟨sb, so, lb, lo.set b.toNat z, fb.ext x3, (fo.ext x3).set (x := some d) ⟨hc'.2.2, hz⟩ _, h4⟩
  · have k5 : k = 5 := by simpa using c5
    have hc' : 0 ≤ b ∧ b < n ∧ d.length = 64 := by omega
    obtain ⟨sb, so, lb, lo, fb, fo, h2⟩ := h2
    have hr : RowAt H2 a (idRow sb so S) := h2.get 1 rfl
    refine nil_some (ld_row (x := sb) hr rfl (ld_row (x := b) (r2.ext h2.base) rfl (ld_row (x := s) (r2.ext h2.base) rfl (part_spec h2 (hd2.ext h2.base) hc'.2.2 fun z B3 H3 x3 hz h3 => ?_))))
    have hr3 : RowAt H3 a (idRow sb so S) := h3.get 1 rfl
    have eb := fb.len
    refine same_row ((r2.ext x3).ext h3.base) rfl (same_row hr3 rfl (S_put (enc := Sl.v) (x := z) h3 2 rfl hc'.1 (by omega) rfl fun H4 h4 => hj _ _ ⟨B3, x3, ?_⟩))
    have ed : doS n S k b c e d = { S with base := S.base.set b.toNat (some d) } := by
      rw [doS, if_neg (by omega), if_neg (by omega), if_neg (by omega), if_pos k5]; rfl
    rw [ed]
    exact ⟨sb, so, lb.set b.toNat z, lo, (fb.ext x3).set (x := some d) ⟨hc'.2.2, hz⟩ _, fo.ext x3, h4⟩
  have k1 : ¬ k = 1 := by simpa using c1
  have k5 : ¬ k = 5 := by simpa using c5
  refine mJoin_cut (fun s Hk => s = decide (k = 2 ∨ k = 6) ∧ Hk = H2) ?_ ?_
  rotate_left
  · intro j hj
    refine mIf_intro (fun c => hj _ _ ⟨?_, rfl⟩) (fun c => hj _ _ ⟨?_, rfl⟩)
    · rw [c, decide_eq_true (.inl (by simpa using c))]
    · have c' : ¬ k = 2 := by simpa using c
      simp [c', Bool.beq_eq_decide_eq]
  rintro _ H2 ⟨rfl, rfl⟩
  refine mIf_intro (fun c26 => ?_) (fun c26 => ?_)
  · have k26 : k = 2 ∨ k = 6 := of_decide_eq_true c26
    have hc' : 1 ≤ c ∧ 0 ≤ b ∧ b + c ≤ n := by omega
    obtain ⟨m, rfl⟩ := Int.eq_ofNat_of_zero_le (show 0 ≤ c by omega)
    have ed2 : k = 2 → doS n S k b m e d = { S with over := fillS S.over b.toNat zer m, sq := S.sq + 1 } := fun h => by rw [doS, if_neg k1, if_pos h, Int.toNat_natCast]
    have ed6 : k = 6 → doS n S k b m e d = { S with base := fillS S.base b.toNat zer m } := fun h => by rw [doS, if_neg k1, if_neg (by omega), if_neg (by omega), if_neg k5, Int.toNat_natCast]
    refine mLoop_count m (fun j st Hk => st = (j : Int) ∧ ∃ B', Ext B2 B' ∧ IdS Hk B' a (if k = 2 then { S with over := fillS S.over b.toNat zer j } else { S with base := fillS S.base b.toNat zer j }) R) ⟨rfl, B2, .refl B2, by
      by_cases k2 : k = 2
      · rw [if_pos k2]; exact h2
      · rw [if_neg k2]; exact h2⟩ ?_
    clear h2
    rintro j st H3 again hjm ⟨rfl, B3, x3, h3⟩ hag
    have r3 := r2.ext x3
    refine ld_row (x := (m : Int)) (r3.ext h3.ext) rfl (mIf_intro (fun cj => ?_) (fun cj => ?_))
    · have hjm' : j < m := by have := of_decide_eq_true cj; omega
      refine mJoin_intro (ld_row (x := k) (r3.ext h3.ext) rfl (mIf_intro (fun c2 => ?_) (fun c2 => ?_)))
      · have k2 : k = 2 := by simpa using c2
        rw [if_pos k2] at h3
        obtain ⟨sb, so, lb, lo, fb, fo, h3⟩ := h3
        have hr : RowAt H3 a (idRow sb so { S with over := fillS S.over b.toNat zer j }) := h3.get 1 rfl
        refine nil_some (ld_row (x := so) hr rfl (ld_row (x := b) (r3.ext h3.base) rfl ⟨⟨by decide, by decide, by decide⟩, F_zero h3 fun z B4 H4 x4 hz h4 => ?_⟩))
        have hr4 : RowAt H4 a (idRow sb so { S with over := fillS S.over b.toNat zer j }) := h4.get 1 rfl
        have eo := fo.len
        rw [show ({ S with over := fillS S.over b.toNat zer j } : Ids).over = fillS S.over b.toNat zer j from rfl, fillS_len] at eo
        refine same_row ((r3.ext x4).ext h4.base) rfl (same_row hr4 rfl ?_)
        rw [wrap64_id (x := b + (j : Int)) (by omega) (by omega), wrap_succ (by omega)]
        refine S_put (enc := Sl.v) (x := z) h4 3 rfl (by omega) (by omega) rfl fun H5 h5 => hag hjm' _ _ ⟨rfl, B4, x3.trans x4, ?_⟩
        rw [if_pos k2]
        have e : (b + (j : Int)).toNat = b.toNat + j := by omega
        rw [e] at h5
        exact ⟨sb, so, lb, lo.set (b.toNat + j) z, fb.ext x4, (fo.ext x4).set (x := zer) ⟨List.length_replicate, hz⟩ _, h5⟩
      · have k2 : ¬ k = 2 := by simpa using c2
        rw [if_neg k2] at h3
        obtain ⟨sb, so, lb, lo, fb, fo, h3⟩ := h3
        have hr : RowAt H3 a (idRow sb so { S with base := fillS S.base b.toNat zer j }) := h3.get 1 rfl
        refine nil_some (ld_row (x := sb) hr rfl (ld_row (x := b) (r3.ext h3.base) rfl ⟨⟨by decide, by decide, by decide⟩, F_zero h3 fun z B4 H4 x4 hz h4 => ?_⟩))
        have hr4 : RowAt H4 a (idRow sb so { S with base := fillS S.base b.toNat zer j }) := h4.get 1 rfl
        have eb := fb.len
        rw [show ({ S with base := fillS S.base b.toNat zer j } : Ids).base = fillS S.base b.toNat zer j from rfl, fillS_len] at eb
        refine same_row ((r3.ext x4).ext h4.base) rfl (same_row hr4 rfl ?_)
        rw [wrap64_id (x := b + (j : Int)) (by omega) (by omega), wrap_succ (by omega)]
        refine S_put (enc := Sl.v) (x := z) h4 2 rfl (by omega) (by omega) rfl fun H5 h5 => hag hjm' _ _ ⟨rfl, B4, x3.trans x4, ?_⟩
        rw [if_neg k2]
        have e : (b + (j : Int)).toNat = b.toNat + j := by omega
        rw [e] at h5
        exact ⟨sb, so, lb.set (b.toNat + j) z, lo, (fb.ext x4).set (x := zer) ⟨List.length_replicate, hz⟩ _, fo.ext x4, h5⟩
    · have hjm' : j = m := by have := of_decide_eq_false cj; omega
      subst hjm'
      refine hj _ _ ⟨B3, x3, ?_⟩
      by_cases k2 : k = 2
      · rw [if_pos k2] at h3
        rw [ed2 k2]; exact h3
      · rw [if_neg k2] at h3
        rw [ed6 (by omega)]; exact h3
  have k26 : ¬ (k = 2 ∨ k = 6) := of_decide_eq_false c26
  have k3 : k = 3 := by omega
  refine mIf_pos (by simpa using k3) ?_
  refine rmark_loop h2 ok fun H3 h3 => ld_row (x := e) (r2.ext h3.ext) rfl (nil_some (st_ep' h3 fun H4 h4 => hj _ _ ⟨B2, .refl B2, ?_⟩))
  obtain ⟨_, _, _, m4, m5⟩ := mk_len S n
  have ed : doS n S k b c e d = { mkTo S n with ep := e, sq := S.sq + 1, dn := S.sq + 1 } := by
    rw [doS, if_neg (by omega), if_neg (by omega), if_pos k3]
  rw [ed]
  have e2 : ({ mkTo S n with ep := e } : Ids) = { mkTo S n with ep := e, sq := S.sq, dn := S.dn } := by rw [← m4, ← m5]
  rw [e2] at h4
  exact h4
end
end Go.Proofs.Ytfjpapddfdhhlaa

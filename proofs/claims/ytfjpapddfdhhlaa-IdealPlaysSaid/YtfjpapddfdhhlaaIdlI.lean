/- ideal: the document's own device. -/
import Derived.Test.YtfjpapddfdhhlaaIdlH
set_option linter.unusedVariables false
set_option linter.unusedSimpArgs false
namespace Go.Proofs.Ytfjpapddfdhhlaa
open Go Go.Kx
theorem within_spec {H : PH} {x lo hi : Int} {Q : Bool → PH → Prop} (hQ : Q (decide (lo ≤ x ∧ x ≤ hi)) H) : keelsonref1_Within x lo hi H Q := by
  refine mJoin_intro (mIf_intro (fun c => ?_) (fun c => ?_))
  · have c' : lo ≤ x := by simpa using c
    have e : decide (x ≤ hi) = decide (lo ≤ x ∧ x ≤ hi) := decide_eq_decide.2 ⟨fun h => ⟨c', h⟩, fun h => h.2⟩
    rw [e]; exact hQ
  · have c' : ¬ lo ≤ x := by simpa using c
    rw [decide_eq_false (fun h => c' h.1)] at hQ; exact hQ
theorem part_spec {H B : PH} {L : List Ob} {p : Sl} {l : List Int} {Q : Sl → PH → Prop} (h : Stars H (baseO B :: L)) (hp : Bytes H p l) (hl : l.length = 64) (hQ : ∀ r B' H', Ext B B' → Bytes B' r l → Stars H' (baseO B' :: L) → Q r H') : keelsonref1_Part p 0 64 H Q := by
  unfold keelsonref1_Part
  rw [show IntKind.wrap .i64 (64 - 0) = 64 from wrap64_id (by decide) (by decide)]
  refine S_mk (enc := Value.int .u8) (x := 0) (n := 64) (Stars.start H) (by decide) (by decide) fun r H1 h1 x1 => cut_list (hp.ext x1) (by decide) (by decide) (by omega) fun q lq _ => ?_
  rw [show (64 : Int).toNat = l.length by rw [hl]; rfl, Int.toNat_zero, List.drop_zero, Nat.sub_zero, List.take_length] at lq
  refine S_copy h1 1 rfl lq cvU fun x2 H2 h2 => ?_
  have e2 : l.take (List.replicate (64 : Int).toNat (0 : Int)).length ++ (List.replicate (64 : Int).toNat (0 : Int)).drop l.length = l := by
    rw [List.length_replicate, show (64 : Int).toNat = l.length by rw [hl]; rfl]; simp
  rw [e2] at h2
  exact F_vec (H' := H2) (h.over h2) fun B' xb hr h3 => hQ r B' H2 xb hr h3
section
variable {H B : PH} {R : List Ob} {a : Addr} {S : Ids} {n : Nat} {K : Int}
theorem rnew_none {Q : Option Addr → PH → Prop} {p : Int} (hg : ¬ (1 ≤ p ∧ p ≤ 64)) (hQ : Q none H) : keelsonref22_NewIdeal p H Q := by
  refine within_spec ?_
  rw [decide_eq_false hg]
  exact mIf_pos rfl hQ
theorem rnew_spec {Q : Option Addr → PH → Prop} {R : List Ob} (h : Stars H (baseO B :: R)) (hg : 1 ≤ n ∧ n ≤ 64) (hQ : ∀ a B' H', Ext B B' → IdS H' B' a (newS n) R → Q (some a) H') : keelsonref22_NewIdeal n H Q := by
  refine within_spec ?_
  rw [decide_eq_true (show 1 ≤ (n : Int) ∧ (n : Int) ≤ 64 from ⟨by omega, by omega⟩)]
  refine mIf_neg rfl ?_
  have hb : Stars H ([baseO B] ++ [allO R]) := Stars.bundle (L := [baseO B]) h
  refine S_mk (enc := Sl.v) (x := Sl.nil) hb (by omega) (by omega) fun q' H2 h2 x2 => S_row h2 fun a H3 h3 x3 => ?_
  rw [Int.toNat_natCast] at h3
  have h4 : Stars H3 (baseO B :: (idO a Sl.nil q' [] (List.replicate n Sl.nil) ⟨List.replicate 0 zer, List.replicate n none, 0, 0, 0⟩ ++ [allO R])) := h3.nilv.pick [0, 3, 4, 2, 1] (by decide) rfl (by simp)
  refine mLoop_count n (fun k st Hk => st = (k : Int) ∧ ∃ B' q lb, Ext B B' ∧ Fo B' lb (List.replicate k zer) ∧ Stars Hk (baseO B' :: (idO a q q' lb (List.replicate n Sl.nil) ⟨List.replicate k zer, List.replicate n none, 0, 0, 0⟩ ++ [allO R]))) ⟨rfl, B, Sl.nil, [], .refl B, ⟨rfl, fun i s x h => by simp at h⟩, h4⟩ ?_
  clear h2 h3 h4 hb
  rintro k st H4 again hk ⟨rfl, B1, q, lb, xB, fb, h4⟩ hag
  have eb := fb.len
  rw [List.length_replicate] at eb
  refine mIf_intro (fun c => ?_) (fun c => ?_)
  · have hkn : k < n := by simpa using c
    refine S_ld (x := q) h4 1 rfl rfl ⟨⟨by decide, by decide, by decide⟩, F_zero h4 fun z B2 H5 x5 hz h5 => ⟨?_, ?_⟩⟩
    · exact (h5.get 1 rfl : RowAt H5 a _).cell rfl
    · refine S_new1 (enc := Sl.v) (x := z) h5 fun q1 H6 h6 x6 => ⟨(h6.get 1 rfl : RowAt H6 a _).cell rfl, S_app (enc := Sl.v) (l := lb) (ys := [z]) h6 2 rfl (h6.list 5 rfl) cvSl rfl (by simp; omega) fun q2 H7 h7 => ?_⟩
      refine S_st (v := Sl.v q2) h7 1 rfl (by simp [idRow]) rfl fun H8 h8 => ?_
      rw [wrap_succ (by omega)]
      refine hag hkn _ _ ⟨rfl, B2, q2, lb ++ [z], xB.trans x5, ?_, h8.pick [0, 1, 2, 3, 4] (by decide) rfl (by simp [idO])⟩
      rw [List.replicate_succ']
      exact (fb.ext x5).app (x := zer) ⟨List.length_replicate, hz⟩
  · have hkn : k = n := by simp at c; omega
    subst hkn
    exact hQ a B1 H4 xB ⟨q, q', lb, _, fb, Fo.nones rfl, unb (L := baseO B1 :: idO a q q' lb (List.replicate k Sl.nil) (newS k)) (N := R) h4⟩
theorem rforget_spec {Q : PH → Prop} (h : IdS H B a S R) (ok : IdOk n S) (hQ : ∀ H', IdS H' B a (fgS S) R → Q H') : keelsonref22_Ideal_Forget (some a) H Q := by
  obtain ⟨sb, so, lb, lo, fb, fo, h⟩ := h
  have hr : RowAt H a (idRow sb so S) := h.get 1 rfl
  have hl : (so.len : Int) = n := by rw [(h.list (enc := Sl.v) 3 rfl).lenI, fo.len, ok.o]
  have hn := ok.le; have oo := ok.o
  refine nil_some (ld_row (x := so) hr rfl ?_)
  rw [hl]
  refine S_mk (enc := Sl.v) (x := Sl.nil) (Stars.bundle (L := baseO B :: idO a sb so lb lo S) (N := R) h) (by omega) (by omega) fun q H2 h2 x2 => ?_
  rw [Int.toNat_natCast] at h2
  refine nil_some (S_st (v := Sl.v q) h2 1 rfl (by simp [idRow]) rfl fun H3 h3 => nil_some (S_ld (x := S.dn) h3 1 rfl rfl (nil_some (S_st h3 1 rfl (by simp [idRow]) rfl fun H4 h4 => hQ H4 ⟨sb, q, lb, List.replicate n Sl.nil, fb, Fo.nones oo.symm, ?_⟩))))
  have h5 : Stars H4 ((baseO B :: idO a sb q lb (List.replicate n Sl.nil) (fgS S)) ++ [allO R]) := h4.pick [0, 1, 2, 5, 4] (by decide) rfl (by simp [idO])
  exact unb h5
theorem rmay_spec {o : Int × Int × Int × Int × Sl} {d : List Int} {Q : Bool → PH → Prop} (h : IdS H B a S R) (ok : IdOk n S) (sm : Sm K S) (hK : K < 2 ^ 40) (hd : Bytes H o.2.2.2.2 d)
    (hQ : ∀ B' H', Ext B B' → IdS H' B' a S R → Q (mayS n S.ep o.1 o.2.1 o.2.2.1 o.2.2.2.1 d.length) H') : keelsonref22_Ideal_IdealMay (some a) o H Q := by
  obtain ⟨sb, so, lb, lo, fb, fo, h⟩ := h
  obtain ⟨k, b, c, e, s⟩ := o
  simp only at hd hQ
  have hdl := hd.lenI
  have hn := ok.le; have hn1 := ok.pos
  refine F_row h fun a1 B1 H1 x1 r1 h1 => ?_
  have hs1 := IdS.up fb fo x1 h1
  have rr := r1.ext h1.base
  have hQ := hQ B1 H1 x1 hs1
  have hr : RowAt H1 a (idRow sb so S) := h1.get 1 rfl
  have hl : (sb.len : Int) = n := by rw [(h1.list (enc := Sl.v) 2 rfl).lenI, fb.len, ok.b]
  refine nil_some (ld_row (x := sb) hr rfl (ld_row (x := k) rr rfl ?_))
  rw [hl, wrap64_id (x := (n : Int) - 1) (by omega) (by omega)]
  refine mJoin_cut (fun s Hk => s = decide (k = 1 ∨ k = 5) ∧ Hk = H1) ?_ ?_
  rotate_left
  · intro j hj
    refine mIf_intro (fun c => hj _ _ ⟨?_, rfl⟩) (fun c => hj _ _ ⟨?_, rfl⟩)
    · rw [c, decide_eq_true (.inl (by simpa using c))]
    · have c' : ¬ k = 1 := by simpa using c
      simp [c', Bool.beq_eq_decide_eq]
  rintro _ H1 ⟨rfl, rfl⟩
  refine mIf_intro (fun c1 => ?_) (fun c1 => ?_)
  · have c1' : k = 1 ∨ k = 5 := by simpa using c1
    rw [mayS, if_pos c1'] at hQ
    refine ld_row (x := b) rr rfl (within_spec ?_)
    have e1 : decide ((0 : Int) ≤ b ∧ b ≤ n - 1) = hasS n b 1 := decide_eq_decide.2 ⟨fun h => ⟨by omega, by omega, h.1, h.2⟩, fun h => ⟨h.2.2.1, h.2.2.2⟩⟩
    rw [e1]
    refine and_ld (fun x => x == 0) c (rr.cell rfl) (and_ld (fun x => x == 0) e (rr.cell rfl) (and_ld (fun x => (x.len : Int) == 64) s (rr.cell rfl) ?_))
    rw [hdl]; exact hQ
  have c1' : ¬ (k = 1 ∨ k = 5) := by simpa using c1
  rw [mayS, if_neg c1'] at hQ
  refine mJoin_cut (fun s Hk => s = decide (k = 2 ∨ k = 6) ∧ Hk = H1) ?_ ?_
  rotate_left
  · intro j hj
    refine mIf_intro (fun c => hj _ _ ⟨?_, rfl⟩) (fun c => hj _ _ ⟨?_, rfl⟩)
    · rw [c, decide_eq_true (.inl (by simpa using c))]
    · have c' : ¬ k = 2 := by simpa using c
      simp [c', Bool.beq_eq_decide_eq]
  rintro _ H1 ⟨rfl, rfl⟩
  refine mIf_intro (fun c2 => ?_) (fun c2 => ?_)
  · have c2' : k = 2 ∨ k = 6 := by simpa using c2
    rw [if_pos c2'] at hQ
    refine ld_row (x := b) rr rfl (within_spec (mJoin_cut (fun s Hk => s = hasS n b c ∧ Hk = H1) ?_ ?_))
    · rintro _ H1 ⟨rfl, rfl⟩
      refine and_ld (fun x => x == 0) e (rr.cell rfl) (and_ld (fun x => (x.len : Int) == 0) s (rr.cell rfl) ?_)
      rw [hdl]; exact hQ
    · intro j hj
      refine mIf_intro (fun cb => ld_row (x := c) rr rfl (ld_row (x := b) rr rfl (within_spec (hj _ _ ⟨?_, rfl⟩)))) (fun cb => hj _ _ ⟨?_, rfl⟩)
      · have cb' := of_decide_eq_true cb
        rw [wrap64_id (x := (n : Int) - b) (by omega) (by omega)]
        exact decide_eq_decide.2 ⟨fun h => ⟨by omega, by omega, by omega, by omega⟩, fun h => ⟨by omega, by omega⟩⟩
      · have cb' := of_decide_eq_false cb
        rw [hasS, decide_eq_false]
        rintro ⟨h1, h2, h3, h4⟩
        exact cb' ⟨h3, by omega⟩
  have c2' : ¬ (k = 2 ∨ k = 6) := by simpa using c2
  rw [if_neg c2'] at hQ
  refine mIf_intro (fun c3 => ?_) (fun c3 => ?_)
  · have c3' : k = 3 := by simpa using c3
    rw [if_pos c3'] at hQ
    obtain ⟨⟨g1, g2⟩, _⟩ := sm
    have e3 : (e == S.ep + 1 && b == 0 && c == 0 && (d.length : Int) == 0) = (b == 0 && c == 0 && e == S.ep + 1 && (d.length : Int) == 0) := by
      cases (e == S.ep + 1) <;> cases (b == 0) <;> cases (c == 0) <;> rfl
    rw [e3] at hQ
    refine ld_row (x := b) rr rfl (and_ld (fun x => x == 0) c (rr.cell rfl) ?_)
    refine mJoin_cut (fun z Hk => z = (b == 0 && c == 0 && e == S.ep + 1) ∧ Hk = H1) ?_ ?_
    · rintro _ H1 ⟨rfl, rfl⟩
      refine and_ld (enc := Sl.v) (fun x => (x.len : Int) == 0) s (rr.cell (i := 4) rfl) ?_
      rw [hdl]; exact hQ
    · intro j hj
      refine mIf_intro (fun cb => ld_row (x := e) rr rfl (nil_some (ld_row (x := S.ep) hr rfl (hj _ _ ⟨?_, rfl⟩)))) (fun cb => hj _ _ ⟨?_, rfl⟩)
      · rw [wrap64_id (x := S.ep + 1) (by omega) (by omega), cb]; rfl
      · rw [cb]; rfl
  · have c3' : ¬ k = 3 := by simpa using c3
    rw [if_neg c3'] at hQ
    exact hQ
theorem rread_spec {b : Int} {Q : Sl → PH → Prop} (h : IdS H B a S R) (ok : IdOk n S) (hQ : ∀ y, Bytes H y (rdS S b) → Q y H) : keelsonref22_Ideal_Read (some a) b H Q := by
  have ob := ok.b; have hn := ok.le; have hn1 := ok.pos
  obtain ⟨sb, so, lb, lo, fb, fo, h⟩ := h
  have hr : RowAt H a (idRow sb so S) := h.get 1 rfl
  have hl : (sb.len : Int) = n := by rw [(h.list (enc := Sl.v) 2 rfl).lenI, fb.len, ok.b]
  have eb := fb.len
  refine nil_some (ld_row (x := sb) hr rfl ?_)
  rw [hl, wrap64_id (x := (n : Int) - 1) (by omega) (by omega)]
  refine within_spec (mIf_intro (fun c => ?_) (fun c => ?_))
  · have hno : ¬ (0 ≤ b ∧ b < S.base.length) := fun h => by
      have : ¬ (0 ≤ b ∧ b ≤ (n : Int) - 1) := of_decide_eq_false (by rw [Bool.not_eq_true'] at c; exact c)
      omega
    have e : rdS S b = [] := by rw [rdS, if_neg hno]
    exact hQ Sl.nil (by rw [e]; exact .nil)
  · have hin : 0 ≤ b ∧ b ≤ (n : Int) - 1 := by simpa using c
    refine nil_some (ld_row (x := sb) hr rfl (idx_ld (h.list (enc := Sl.v) 2 rfl) hin.1 (by omega) fun x hx => ?_))
    obtain ⟨s', v, hs', hv, hbk⟩ := fb.get (i := b.toNat) (by omega)
    rw [hx] at hs'; cases hs'
    have e : rdS S b = v.getD [] := by rw [rdS, if_pos ⟨hin.1, by omega⟩]; simp [List.getD, hv]
    exact hQ x (by rw [e]; exact hbk.bytes.1.ext h.base)
theorem rlook_spec {b : Int} {Q : Sl → PH → Prop} (h : IdS H B a S R) (ok : IdOk n S) (hQ : ∀ y, Bytes H y (lkS S b) → Q y H) : keelsonref22_Ideal_Look (some a) b H Q := by
  have ob := ok.b; have oo := ok.o; have hn := ok.le; have hn1 := ok.pos
  obtain ⟨sb, so, lb, lo, fb, fo, h⟩ := h
  have hr : RowAt H a (idRow sb so S) := h.get 1 rfl
  have hl : (sb.len : Int) = n := by rw [(h.list (enc := Sl.v) 2 rfl).lenI, fb.len, ok.b]
  have eb := fb.len; have eo := fo.len
  refine nil_some (ld_row (x := sb) hr rfl ?_)
  rw [hl, wrap64_id (x := (n : Int) - 1) (by omega) (by omega)]
  refine within_spec (mIf_intro (fun c => ?_) (fun c => ?_))
  · have hno : ¬ (0 ≤ b ∧ b < S.base.length) := fun h => by
      have : ¬ (0 ≤ b ∧ b ≤ (n : Int) - 1) := of_decide_eq_false (by rw [Bool.not_eq_true'] at c; exact c)
      omega
    have e : lkS S b = [] := by rw [lkS, if_neg hno]
    exact hQ Sl.nil (by rw [e]; exact .nil)
  · have hin : 0 ≤ b ∧ b ≤ (n : Int) - 1 := by simpa using c
    refine nil_some (ld_row (x := so) hr rfl (idx_ld (h.list (enc := Sl.v) 3 rfl) hin.1 (by omega) fun x hx => ?_))
    obtain ⟨s', v, hs', hv, hbk⟩ := fo.get (i := b.toNat) (by omega)
    rw [hx] at hs'; cases hs'
    rw [hbk.isNone]
    have hv' : S.over.getD b.toNat none = v := by simp [List.getD, hv]
    cases v with
    | some l =>
      have e : lkS S b = l := by rw [lkS, if_pos ⟨hin.1, by omega⟩, hv']
      refine mIf_pos rfl (nil_some (ld_row (x := so) hr rfl (idx_ld (h.list (enc := Sl.v) 3 rfl) hin.1 (by omega) fun x' hx' => ?_)))
      rw [hx] at hx'; cases hx'
      exact hQ x (by rw [e]; exact hbk.2.ext h.base)
    | none =>
      have e : lkS S b = rdS S b := by rw [lkS, if_pos ⟨hin.1, by omega⟩, hv']
      refine mIf_neg rfl (nil_some (ld_row (x := sb) hr rfl (idx_ld (h.list (enc := Sl.v) 2 rfl) hin.1 (by omega) fun x' hx' => ?_)))
      obtain ⟨s', v, hs', hv, hbk⟩ := fb.get (i := b.toNat) (by omega)
      rw [hx'] at hs'; cases hs'
      have e2 : rdS S b = v.getD [] := by rw [rdS, if_pos ⟨hin.1, by omega⟩]; simp [List.getD, hv]
      exact hQ x' (by rw [e, e2]; exact hbk.bytes.1.ext h.base)
end
end Go.Proofs.Ytfjpapddfdhhlaa

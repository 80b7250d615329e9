/- paged: All; THE LAW PagedPages, on formulas. -/
import Derived.Test.YtgnnfafidhfhfaaPagD
set_option linter.unusedVariables false
set_option linter.unusedSimpArgs false
namespace Go.Proofs.Ytgnnfafidhfhfaa
open Go Go.Kx PInt

section
variable {H : PH} {a : Addr} {s t : Sl} {per : Int} {l : List Int} {d : List Bool}
theorem all_c1_spec {γ : Type} {c0 : Addr} {Y : List Value → γ → PH → (Nat → γ → PH → Prop) → Prop} {g0 : γ} {Q : Nat → γ → PH → Prop} (I : Nat → γ → PH → Prop) (hd : l.length ≤ 65536)
    (hI : ∀ k g H, I k g H → cellAt H c0 = some (.pointer (some a)) ∧ RowAt H a (pgRow s t per) ∧ ListAt E H s l) (h0 : I 0 g0 H)
    (step : ∀ k g H K x, k < l.length → I k g H → l[k]? = some x → (∀ g' H', I (k + 1) g' H' → K 0 g' H') → (∀ j g' H', j ≠ 0 → Q j g' H' → K j g' H') → Y [.int .i64 k, .int .i64 x] g H K)
    (fin : ∀ g H, I l.length g H → Q 0 g H) : paged_Paged_int_All_c1 c0 Y g0 H Q := by
  obtain ⟨e0, r0, l0⟩ := hI _ _ _ h0
  refine ⟨some a, e0, len_spec r0 l0.lenI ?_⟩
  refine mLoop_count l.length (fun k st Hk => ∃ g, st = ((k : Int), (0, g)) ∧ I k g Hk) ⟨g0, rfl, h0⟩ ?_
  rintro k st H1 again hk ⟨g, rfl, hi⟩ hag
  obtain ⟨e1, r1, l1⟩ := hI _ _ _ hi
  refine mIf_intro (fun c => ?_) (fun c => ?_)
  · have hkl : k < l.length := by simpa using c
    have ew := wrap_succ (k := k) (by omega)
    refine ⟨some a, e1, nil_some (ld_row (x := s) r1 rfl (idx_ld l1 (by omega) (by omega) fun x hx => ⟨rfl, ?_⟩))⟩
    rw [Int.toNat_natCast] at hx
    refine step k g H1 _ x hkl hi hx (fun g' H' hi' => mIf_neg rfl ?_) (fun j g' H' hj hq => mIf_pos (by simpa using hj) hq)
    rw [ew]; exact hag hkl _ _ ⟨g', rfl, hi'⟩
  · have : k = l.length := by simp at c; omega
    subst this
    exact fin g H1 hi
theorem all_spec {Q : Sl → Bool → PH → Prop} (r : RowAt H a (pgRow s t per)) (hs : ListAt E H s l) (hd : l.length ≤ 65536) (hQ : ∀ q H', Stars H' [baseO H, vecO E q l] → Q q true H') : keelsonlaw11_all (some a) H Q := by
  refine S_row (Stars.start H) fun a1 H1 h1 x1 => S_row h1 fun a4 H2 h2 x2 => S_row h2 fun c0 H3 h3 x3 => ⟨.inr ⟨_, _, _, rfl⟩, mIf_neg rfl (S_row h3 fun a19 H4 h4 x4 => ?_)⟩
  have h5 := h4.nilv (enc := E)
  refine paged_Paged_int_All_c1_s _ _ _ _ _ (all_c1_spec (a := a) (s := s) (t := t) (per := per) (l := l)
    (fun k _ Hk => ∃ q, Stars Hk [baseO H, rowO a1 [Sl.v Sl.nil], rowO a4 [.bool false], rowO c0 [.pointer (some a)], rowO a19 [Sl.v q], vecO E q (l.take k)]) hd
    ?_ ⟨Sl.nil, h5⟩ ?_ ?_)
  · rintro k _ Hk ⟨q, hk⟩
    exact ⟨hk.cell1 3 rfl, r.ext hk.base, hs.ext hk.base⟩
  · rintro k _ Hk K x hkl ⟨q, hk⟩ hx hnext hbrk
    have hl1 := (hk.list (enc := E) 5 rfl).lenI
    have el : (l.take k).length = k := by rw [List.length_take]; omega
    rw [el] at hl1
    refine ⟨_, _, rfl, S_ld1 hk 4 rfl (mJoin_intro (mIf_neg (by rw [hl1]; simp) (S_ld1 hk 4 rfl (mIf_neg (by rw [hl1]; simp; omega) (S_ld1 hk 4 rfl ?_)))))⟩
    refine S_new1 (enc := E) hk fun q1 H6 h6 x6 => S_app (ys := [x]) h6 5 rfl (h6.list 6 rfl) ints_enc rfl (by rw [el]; simp; omega) fun r3 H7 h7 => S_st1 h7 4 rfl rfl fun H8 h8 => ?_
    refine hnext () H8 ⟨r3, ?_⟩
    have e2 : l.take (k + 1) = l.take k ++ [x] := by rw [List.take_add_one, hx]; rfl
    rw [e2]
    exact h8.pick [0, 1, 2, 3, 4, 5] (by decide) rfl (by simp)
  · rintro _ Hk ⟨q, hk⟩
    rw [List.take_length] at hk
    refine mIf_neg rfl (S_ld1 hk 4 rfl (S_st1 hk 1 rfl rfl fun H6 h6 => S_st1 h6 2 rfl rfl fun H7 h7 => S_ld1 (x := q) h7 1 rfl (S_ld1 (x := true) h7 2 rfl ?_)))
    exact hQ q H7 (h7.pick [0, 5] (by decide) rfl (by simp))
theorem page_take {k : Nat} (hp : 1 ≤ per) (hk : k < d.length) : l.take (k * per).toNat ++ pageOf l per d k = l.take ((k + 1 : Nat) * per).toNat := by
  rw [pageOf, if_pos ⟨by omega, by omega⟩]
  have e : (((k + 1 : Nat) : Int) * per).toNat = ((k : Int) * per).toNat + per.toNat := by
    have h1 : 0 ≤ (k : Int) * per := Int.mul_nonneg (by omega) (by omega)
    push_cast
    rw [Int.add_mul, Int.one_mul]; omega
  rw [e, List.take_add]
theorem page_len {k : Nat} (ok : PgOk l.length per d) (hk : k < d.length) : 1 ≤ (pageOf l per d k).length ∧ ((pageOf l per d k).length : Int) ≤ per ∧ (pageOf l per d k).length ≤ l.length ∧ (k + 1 < d.length → ((pageOf l per d k).length : Int) = per) := by
  have hp := ok.p1; have hd := ok.d; have hn := ok.n1
  have h1 : 0 ≤ (k : Int) * per := Int.mul_nonneg (by omega) (by omega)
  have h2 := page_lt (n := l.length) (k := k) hp (by omega) (by omega)
  rw [pageOf, if_pos ⟨by omega, by omega⟩, List.length_take, List.length_drop]
  refine ⟨by omega, by omega, by omega, fun h => ?_⟩
  have h3 := page_lt (n := l.length) (k := (k : Int) + 1) hp (by omega) (by omega)
  rw [Int.add_mul, Int.one_mul] at h3
  omega
theorem pages_cover (ok : PgOk l.length per d) : l.take ((d.length : Int) * per).toNat = l := by
  have hp := ok.p1; have hd := ok.d
  refine List.take_of_length_le ?_
  have h1 : (l.length : Int) + per - 1 < ((l.length : Int) + per - 1) / per * per + per := by
    have := Int.emod_lt_of_pos ((l.length : Int) + per - 1) (show 0 < per by omega)
    have h2 := Int.mul_ediv_add_emod ((l.length : Int) + per - 1) per
    rw [Int.mul_comm] at h2
    omega
  have e : (d.length : Int) * per = ((l.length : Int) + per - 1) / per * per := by rw [hd]; rfl
  omega
end

theorem pages_law {H : PH} {p0 p1 : Int} {s2 : Sl} {l2 : List (Int × Int)} (h2 : ListN enc2 2 H s2 l2) : keelsonlaw11_PagedPages p0 p1 s2 H (DoneD H) := by
  have hawake : ∀ H2, Ext H H2 → keelsonlaw11_awake H2 (DoneD H) := fun H2 x2 => awake_spec fun H3 x3 => ⟨rfl, x2.trans x3⟩
  have hl2 := h2.lenI
  refine mJoin_intro (mIf_intro (fun _ => mJoin_intro (mIf_pos rfl (mJoin_intro (mIf_pos rfl (mJoin_intro (mIf_pos rfl (mIf_pos rfl (hawake H (.refl H))))))))) (fun c0 => ?_))
  refine mJoin_intro (mIf_intro (fun _ => mJoin_intro (mIf_pos rfl (mJoin_intro (mIf_pos rfl (mIf_pos rfl (hawake H (.refl H))))))) (fun c1 => ?_))
  refine mJoin_intro (mIf_intro (fun _ => mJoin_intro (mIf_pos rfl (mIf_pos rfl (hawake H (.refl H))))) (fun c2 => ?_))
  refine mJoin_intro (mIf_intro (fun _ => mIf_pos rfl (hawake H (.refl H))) (fun c3 => mIf_intro (fun _ => hawake H (.refl H)) (fun c4 => ?_)))
  have hg : 1 ≤ p0 ∧ p0 ≤ 65536 ∧ 1 ≤ p1 ∧ p1 ≤ 65536 := by simp at c0 c1 c2 c3; omega
  have hp0 : p0 ≤ 200 := by simp at c1; omega
  have hp1 : p1 ≤ 300 := by simp at c3; omega
  have k2 : l2.length ≤ 50 := by simp at c4; omega
  refine new_froz (Stars.start H) hg fun B a s t H1 xB r h1 => mIf_neg rfl ?_
  have rx : ∀ {H' L}, Stars H' (baseO B :: L) → RowAt H' a (pgRow s t p1) := fun h => r.ext h.base
  have hx : ∀ {H' L}, Stars H' (baseO B :: L) → Ext H H' := fun h => xB.trans h.base
  refine mLoop_count l2.length (fun k st Hk => st = (k : Int) ∧ ∃ l d, (l.length : Int) = p0 ∧ PgOk l.length p1 d ∧ Stars Hk [baseO B, vecO E s l, vecO Value.bool t d]) ⟨rfl, _, _, by rw [List.length_replicate]; omega, pgok_new hg, h1⟩ ?_
  clear h1
  rintro k st H3 again hk ⟨rfl, l, d, hl, ok, h3⟩ hag
  refine mIf_intro (fun c => ?_) (fun _ => ?_)
  · have hkl : k < l2.length := by simp at c; omega
    refine pair1 (h2.ext (hx h3)) (by omega) (by omega) fun x _ => pair2' (h2.ext (hx h3)) (by omega) (by omega) fun b y _ hb => round_spec (by omega) (by omega) ⟨hb, ?_⟩
    have q0 := Int.emod_nonneg x.1 (show p0 ≠ 0 by omega)
    have q1 := Int.emod_lt_of_pos x.1 (show 0 < p0 by omega)
    refine set_spec h3 (rx h3) 1 2 rfl rfl (by decide) ok fun H5 h5 => ?_
    rw [decide_eq_true (show 0 ≤ x.1 % p0 ∧ x.1 % p0 < (l.length : Int) from ⟨q0, by omega⟩)]
    refine mIf_neg rfl ?_
    rw [wrap_succ (by omega)]
    exact hag hkl _ _ ⟨rfl, _, _, by rw [setL_len]; exact hl, ok.set _ _, h5⟩
  clear hag again
  have hfew := ok.few
  have hn2 := ok.n2
  have h4 := h3.nilv (enc := E)
  refine mLoop_count d.length (fun j st Hk => st.2 = (j : Int) ∧ Stars Hk [baseO B, vecO E s l, vecO Value.bool t d, vecO E st.1 (l.take ((j : Int) * p1).toNat)]) ⟨rfl, by simpa using h4⟩ ?_
  rintro j ⟨q, st⟩ H4 again hj ⟨e, h4⟩ hag
  simp only at e h4
  subst e
  refine pages_spec (d := d) (rx h4) (h4.list (enc := Value.bool) 2 rfl).lenI (mIf_intro (fun c => ?_) (fun c => ?_))
  · have hjd : j < d.length := by simpa using c
    obtain ⟨g1, g2, g3, g4⟩ := page_len ok hjd
    refine page_spec (rx h4) (h4.get 1 rfl) (h4.list (enc := Value.bool) 2 rfl).lenI ok fun q2 H5 h5 => ?_
    have hl5 := (h5.list (enc := E) 1 rfl).lenI
    have h6 := h4.over h5
    refine mJoin_intro (mIf_neg (by rw [hl5]; simp; omega) ?_)
    have e1 : decide (p1 < (q2.len : Int)) = false := by rw [hl5]; simp; omega
    rw [e1]
    refine mJoin_intro (mIf_neg rfl (pages_spec (d := d) (rx h6) (h6.list (enc := Value.bool) 2 rfl).lenI (mJoin_intro ?_)))
    have goal : mIf false (DoneD H false H5) (mApp H5 3 1 8 [.int .i64 0] q q2 fun r70 H71 =>
        mLoop (fun (s72 : Int) (H75 : PH) (again73 : Int → PH → Prop) =>
        mIf (decide (s72 < (q2.len : Int)))
        (mIdx q2 1 s72 fun a77 =>
        mLd (.int .i64) H75 a77 fun x79 =>
        mIdx q2 1 s72 fun a81 =>
        mSt H75 a81 ([.int .i64 (IntKind.wrap .i64 (x79 + 1))]) fun H83 =>
        again73 (IntKind.wrap .i64 (s72 + 1)) H83)
        (again (r70, IntKind.wrap .i64 ((j : Int) + 1)) H75))
        0 H71) := by
      refine mIf_neg rfl (S_app (ys := pageOf l p1 d j) h6 3 rfl (h6.list (enc := E) 4 rfl) ints_enc rfl ?_ fun r7 H7 h7 => ?_)
      · rw [List.length_take]; omega
      rw [page_take ok.p1 hjd] at h7
      refine mLoop_count (pageOf l p1 d j).length (fun i st Hk => st = (i : Int) ∧ ∃ m, m.length = (pageOf l p1 d j).length ∧ Stars Hk [baseO B, vecO E s l, vecO Value.bool t d, vecO E r7 (l.take (((j + 1 : Nat) : Int) * p1).toNat), vecO E q2 m]) ⟨rfl, _, rfl, h7⟩ ?_
      rintro i st H8 again8 hi ⟨rfl, m, hm, h8⟩ hag8
      rw [hl5]
      refine mIf_intro (fun c3 => ?_) (fun _ => ?_)
      · have hil : i < m.length := by simp at c3; omega
        refine idx_ld (h8.list (enc := E) 4 rfl) (by omega) (by omega) fun x hx => S_put (enc := E) h8 4 rfl (by omega) (by omega) rfl fun H9 h9 => ?_
        rw [wrap_succ (by omega)]
        exact hag8 (by omega) _ _ ⟨rfl, _, by rw [List.length_set]; exact hm, h9⟩
      · rw [wrap_succ (by omega)]
        exact hag hjd _ _ ⟨rfl, h8.pick [0, 1, 2, 3] (by decide) rfl (by simp)⟩
    have ew : IntKind.wrap .i64 ((d.length : Int) - 1) = d.length - 1 := wrap64_id (by omega) (by omega)
    rw [ew]
    refine mIf_intro (fun c5 => ?_) (fun c5 => goal)
    have e5 : ((q2.len : Int) != p1) = false := by rw [hl5, g4 (by simp at c5; omega)]; simp
    rw [e5]
    exact goal
  have hjd : j = d.length := by simp at c; omega
  subst hjd
  rw [pages_cover ok] at h4
  refine all_spec (rx h4) (h4.list 1 rfl) hn2 fun q2 H5 h5 => ?_
  have h6 := h4.over h5
  have lq := h6.list (enc := E) 3 rfl
  refine mJoin_intro (mIf_pos rfl ?_)
  have e6 : ((q.len : Int) == p0) = true := by rw [lq.lenI]; simpa using hl
  rw [e6]
  refine mJoin_intro (mIf_pos rfl (ints_spec lq (h6.list (enc := E) 4 rfl) (by omega) ?_))
  rw [decide_eq_true rfl]
  refine mJoin_intro (mIf_pos rfl (pages_spec (d := d) (rx h6) (h6.list (enc := Value.bool) 2 rfl).lenI (page_spec (rx h6) (h6.get 1 rfl) (h6.list (enc := Value.bool) 2 rfl).lenI ok fun q7 H7 h7 => ?_)))
  have z1 : pageOf l p1 d d.length = [] := by rw [pageOf, if_neg (by omega)]
  have e7 := (h7.list (enc := E) 1 rfl).lenI
  rw [z1] at e7
  rw [e7]
  have h8 := h6.over h7
  refine mJoin_intro (mIf_pos rfl (page_spec (rx h8) (h8.get 1 rfl) (h8.list (enc := Value.bool) 2 rfl).lenI ok fun q9 H9 h9 => ?_))
  have z2 : pageOf l p1 d (-1) = [] := by rw [pageOf, if_neg (by omega)]
  have e9 := (h9.list (enc := E) 1 rfl).lenI
  rw [z2] at e9
  rw [e9]
  have h10 := h8.over h9
  exact mJoin_intro (mIf_pos rfl (hawake H9 (hx h10)))
end Go.Proofs.Ytgnnfafidhfhfaa

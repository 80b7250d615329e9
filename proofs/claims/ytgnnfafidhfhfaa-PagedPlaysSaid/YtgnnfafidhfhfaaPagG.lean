/- THE LAW PagedPlays, on formulas. -/
import Derived.Test.YtgnnfafidhfhfaaPagE
set_option linter.unusedVariables false
set_option linter.unusedSimpArgs false
namespace Go.Proofs.Ytgnnfafidhfhfaa
open Go Go.Kx PInt

/-- One act. -/
abbrev Act4 := Int × Int × Int × (Sl × List Int)
def enc4 (x : Act4) : List Value := [.int .i64 x.1, .int .i64 x.2.1, .int .i64 x.2.2.1, Sl.v x.2.2.2.1]
theorem within_spec {H : PH} {n low high : Int} {Q : Bool → PH → Prop} (hQ : Q (decide (low ≤ n) && decide (n ≤ high)) H) : keelsonref1_Within n low high H Q := by
  refine mJoin_intro (mIf_intro (fun c => ?_) (fun c => ?_))
  · rw [c, Bool.true_and] at hQ; exact hQ
  · rw [c, Bool.false_and] at hQ; exact hQ
theorem up_spec {H : PH} {n per : Int} {Q : Int → PH → Prop} (h1 : 1 ≤ n) (h2 : n ≤ 65536) (h3 : 1 ≤ per) (h4 : per ≤ 65536) (hQ : Q (pgs n per) H) : keelsonref1_Up n per H Q := by
  have hp := pgs_pos h1 h3
  have hp2 := pgs_le h1 h3
  refine ⟨by omega, ?_⟩
  rw [wrap64_id (x := n + per) (by omega) (by omega), wrap64_id (x := n + per - 1) (by omega) (by omega), tdiv_div (by omega)]
  rw [wrap64_id (by show -9223372036854775808 ≤ pgs n per; omega) (by show pgs n per < 9223372036854775808; omega)]
  exact hQ
theorem page_size {l : List Int} {per : Int} {d : List Bool} {k : Int} (ok : PgOk l.length per d) (h0 : 0 ≤ k) (h1 : k < d.length) : ((pageOf l per d k).length : Int) = min (l.length : Int) ((k + 1) * per) - k * per := by
  have hp := ok.p1; have hd := ok.d
  have h2 : 0 ≤ k * per := Int.mul_nonneg h0 (by omega)
  have h3 := page_lt (n := l.length) hp h0 (by omega)
  rw [pageOf, if_pos ⟨h0, h1⟩, List.length_take, List.length_drop, Int.add_mul, Int.one_mul]
  omega
theorem loadL_len (per : Int) (l : List Int) (d : List Bool) (k : Int) (ys : List Int) (ok : PgOk l.length per d) : (loadL per l d k ys).length = l.length := by
  unfold loadL
  split
  · rename_i h
    have hp := ok.p1; have hd := ok.d
    have h3 := page_lt (n := l.length) hp h.1.1 (by omega)
    have h2 : 0 ≤ k * per := Int.mul_nonneg h.1.1 (by omega)
    have h4 := page_size ok h.1.1 h.1.2
    rw [Int.add_mul, Int.one_mul] at h4
    have h5 := h.2
    simp only [List.length_append, List.length_take, List.length_drop]
    omega
  · rfl
theorem loadD_len (per : Int) (l : List Int) (d : List Bool) (k : Int) (ys : List Int) : (loadD per l d k ys).length = d.length := by unfold loadD; split <;> simp
theorem PgOk.load {l : List Int} {per : Int} {d : List Bool} (ok : PgOk l.length per d) (k : Int) (ys : List Int) : PgOk (loadL per l d k ys).length per (loadD per l d k ys) := by
  rw [loadL_len per l d k ys ok]
  exact ⟨ok.n1, ok.n2, ok.p1, ok.p2, by rw [loadD_len]; exact ok.d⟩

theorem plays_law {H : PH} {p0 p1 p2 : Int} {s3 : Sl} {l3 : List Act4} (h3 : ListN enc4 4 H s3 l3) (hl3 : ∀ x, x ∈ l3 → Ints H x.2.2.2.1 x.2.2.2.2) : keelsonlaw11_PagedPlays p0 p1 p2 s3 H (DoneD H) := by
  have hlen := h3.lenI
  have hawake : ∀ H2, Ext H H2 → keelsonlaw11_awake H2 (DoneD H) := fun H2 x2 => awake_spec fun H3 x3 => ⟨rfl, x2.trans x3⟩
  refine mIf_intro (fun _ => hawake H (.refl H)) (fun c0 => ?_)
  have k3 : l3.length ≤ 60 := by simp at c0; omega
  by_cases hg : 1 ≤ p0 ∧ p0 ≤ 65536 ∧ 1 ≤ p1 ∧ p1 ≤ 65536
  rotate_left
  · refine new_spec (fun _ => within_spec (mJoin_intro ?_)) fun h => absurd h hg
    have fin : ∀ b : Bool, b = true → mIf b (mJoin (fun (s15 : Bool) (H17 : PH) => DoneD H s15 H17) fun j16 => mIf (Option.isNone (none : Option Addr)) (keelsonlaw11_awake H fun y20 H19 => j16 y20 H19) (j16 false H)) False := by
      rintro b rfl
      exact mIf_pos rfl (mJoin_intro (mIf_pos rfl (hawake H (.refl H))))
    refine mIf_intro (fun _ => mIf_pos rfl (mJoin_intro (mIf_pos rfl (hawake H (.refl H))))) (fun c => within_spec ?_)
    have e : (!(decide (1 ≤ p1) && decide (p1 ≤ 65536))) = true := by
      simp at c ⊢
      omega
    rw [e]
    exact mIf_pos rfl (mJoin_intro (mIf_pos rfl (hawake H (.refl H))))
  refine new_froz (Stars.start H) hg fun B a s t H1 xB r h1 => within_spec (mJoin_intro ?_)
  have e1 : (!(decide (1 ≤ p0) && decide (p0 ≤ 65536))) = false := by simp; omega
  have e2 : (!(decide (1 ≤ p1) && decide (p1 ≤ 65536))) = false := by simp; omega
  rw [e1]
  refine mIf_neg rfl (within_spec ?_)
  rw [e2]
  refine mIf_neg rfl ?_
  have rx : ∀ {H' L}, Stars H' (baseO B :: L) → RowAt H' a (pgRow s t p1) := fun h => r.ext h.base
  have hx : ∀ {H' L}, Stars H' (baseO B :: L) → Ext H H' := fun h => xB.trans h.base
  have hp := pgs_pos hg.1 hg.2.2.1
  have hp2 := pgs_le hg.1 hg.2.2.1
  obtain ⟨N, hN⟩ := Int.eq_ofNat_of_zero_le (show 0 ≤ p0 by omega)
  obtain ⟨M, hM⟩ := Int.eq_ofNat_of_zero_le (show 0 ≤ pgs p0 p1 by omega)
  have okn : PgOk (List.replicate p0.toNat p2).length p1 (List.replicate (pgs p0 p1).toNat false) := pgok_new hg
  rw [hM, hN] at h1 okn
  simp only [Int.toNat_natCast] at h1 okn
  refine mJoin_intro (mIf_neg rfl (len_spec (l := List.replicate N p2) (rx h1) (h1.list (enc := E) 1 rfl).lenI ?_))
  have e3 : (((List.replicate N p2).length : Int) != p0) = false := by rw [List.length_replicate]; simp; omega
  rw [e3]
  refine mJoin_intro (mIf_neg rfl (pages_spec (d := List.replicate M false) (rx h1) (h1.list (enc := Value.bool) 2 rfl).lenI (up_spec hg.1 hg.2.1 hg.2.2.1 hg.2.2.2 ?_)))
  have e4 : (((List.replicate M false).length : Int) != pgs p0 p1) = false := by rw [List.length_replicate, hM]; simp
  rw [e4]
  refine mIf_neg rfl (mIf_intro (fun _ => hawake H1 (hx h1)) (fun c1 => ?_))
  have hp3 : p0 ≤ 300 := by simpa using c1
  refine S_mk (enc := E) (x := 0) h1 (by omega) (by omega) fun r35 H2 h2 x2 => ?_
  refine mLoop_count N (fun k st Hk => st = (k : Int) ∧ Stars Hk [baseO B, vecO E s (List.replicate N p2), vecO Value.bool t (List.replicate M false), vecO E r35 (List.replicate k p2 ++ List.replicate (N - k) 0)]) ⟨rfl, by simpa [hN] using h2⟩ ?_
  clear h2
  rintro k st H2 again hk ⟨rfl, h2⟩ hag
  refine mIf_intro (fun c => ?_) (fun c => ?_)
  · have hkN : k < N := by simp at c; omega
    refine S_put (enc := E) h2 3 rfl (by omega) (by simp; omega) rfl fun H3 h3' => ?_
    rw [wrap_succ (by omega)]
    refine hag hkN _ _ ⟨rfl, ?_⟩
    have e : (List.replicate k p2 ++ List.replicate (N - k) 0).set (k : Int).toNat p2 = List.replicate (k + 1) p2 ++ List.replicate (N - (k + 1)) 0 := by
      rw [Int.toNat_natCast, List.set_append_right _ _ (by simp), List.length_replicate, Nat.sub_self, show N - k = (N - (k + 1)) + 1 by omega, List.replicate_succ, List.set_cons_zero, List.replicate_succ' (n := k), List.append_assoc]; rfl
    rw [e] at h3'
    exact h3'
  have hkN : k = N := by simp at c; omega
  subst hkN
  rw [Nat.sub_self, List.replicate_zero, List.append_nil] at h2
  refine up_spec hg.1 hg.2.1 hg.2.2.1 hg.2.2.2 ?_
  rw [hM]
  refine S_mk (enc := Value.bool) (x := false) h2 (by omega) (by omega) fun r50 H3 h3' x3 => ?_
  rw [Int.toNat_natCast] at h3'
  clear hag again
  refine mLoop_count l3.length (fun k st Hk => st.2 = (k : Int) ∧ ∃ l d, (l.length : Int) = p0 ∧ PgOk l.length p1 d ∧ Stars Hk [baseO B, vecO E s l, vecO Value.bool t d, vecO E r35 l, vecO Value.bool st.1 d]) ⟨rfl, _, _, by rw [List.length_replicate]; omega, okn, h3'⟩ ?_
  clear h3' h2 h1 okn e4 e3
  rintro j ⟨dq, st⟩ H4 again hj ⟨e, l, d, hl, ok, h4⟩ hag
  simp only at e h4
  subst e
  have hfew := ok.few
  refine mIf_intro (fun c => ?_) (fun _ => ?_)
  rotate_left
  · refine all_spec (rx h4) (h4.list 1 rfl) ok.n2 fun q2 H5 h5 => mJoin_intro (mIf_pos rfl (ints_spec (h5.list 1 rfl) ((h4.list (enc := E) 3 rfl).ext h5.base) (by have := ok.n2; omega) ?_))
    rw [decide_eq_true rfl]
    exact mJoin_intro (mIf_pos rfl (hawake H5 ((hx h4).trans h5.base)))
  have hjl : j < l3.length := by simp at c; omega
  refine idxL (h3.ext (hx h4)) (by simp) (by simpa using hjl) fun a59 x hx0 hc => ?_
  rw [Int.toNat_natCast] at hx0
  have hpk := hl3 x (List.mem_of_getElem? hx0)
  refine ⟨(x.1, x.2.1, x.2.2.1, x.2.2.2.1), hc, S_row h4 fun a63 H5 h5 x5 => st_row (vs := [.int .i64 x.1, .int .i64 x.2.1, .int .i64 x.2.2.1, Sl.v x.2.2.2.1]) (h5.get 5 rfl) rfl rfl fun H6 r6 k6 => ?_⟩
  have h6 : Stars H6 [baseO B, vecO E s l, vecO Value.bool t d, vecO E r35 l, vecO Value.bool dq d, rowO a63 [.int .i64 x.1, .int .i64 x.2.1, .int .i64 x.2.2.1, Sl.v x.2.2.2.1]] := by
    have := h5.turn (O' := rowO a63 [.int .i64 x.1, .int .i64 x.2.1, .int .i64 x.2.2.1, Sl.v x.2.2.2.1]) 5 rfl r6 (fun c hc => .inl hc) fun c o hc hn => k6 c o hc hn
    exact this
  obtain ⟨kind, at', v, pk, ys⟩ := x
  simp only at hpk h6 r6
  clear r6 k6 hc h5 x5 hx0
  refine S_ld (x := pk) h6 5 rfl rfl (mIf_intro (fun _ => hawake H6 (hx h6)) (fun _ => ?_))
  refine S_ld (enc := Value.int .i64) (x := kind) h6 5 rfl rfl ?_
  refine mJoin_cut (fun dq Hk => ∃ l d, (l.length : Int) = p0 ∧ PgOk l.length p1 d ∧ Stars Hk [baseO B, vecO E s l, vecO Value.bool t d, vecO E r35 l, vecO Value.bool dq d]) ?_ fun k' hk' => ?_
  · clear h6 h4 ok hl
    rintro dq Hk ⟨l, d, hl, ok, h7⟩
    have hfew := ok.few
    have h7' := h7.nilv (enc := E)
    have hdl := (h7.list (enc := Value.bool) 4 rfl).lenI
    refine mLoop_count d.length (fun i st Hk => st.2 = (i : Int) ∧ Stars Hk [baseO B, vecO E s l, vecO Value.bool t d, vecO E r35 l, vecO Value.bool dq d, vecO E st.1 (dirtyTo d i)]) ⟨rfl, h7'⟩ ?_
    rintro i ⟨q, st⟩ H8 again8 hi ⟨e, h8⟩ hag8
    simp only at e h8
    subst e
    rw [hdl]
    refine mIf_intro (fun c => ?_) (fun c => ?_)
    · have hil : i < d.length := by simpa using c
      have hlen := dirtyTo_len d i
      refine mJoin_intro (idx_ld (h8.list (enc := Value.bool) 4 rfl) (by omega) (by omega) fun b hb => ?_)
      rw [Int.toNat_natCast] at hb
      have hgd : d.getD i false = b := by simp [List.getD, hb]
      simp only []
      rw [wrap_succ (by omega)]
      refine mIf_intro (fun c1 => ?_) (fun c1 => hag8 hil _ _ ⟨rfl, ?_⟩)
      · refine S_new1 (enc := E) h8 fun q1 H9 h9 x9 => S_app (ys := [(i : Int)]) h9 5 rfl (h9.list 6 rfl) ints_enc rfl (by simp; omega) fun r3 H10 h10 => hag8 hil _ _ ⟨rfl, ?_⟩
        rw [dirtyTo_some (hgd.trans c1)]
        exact h10.pick [0, 1, 2, 3, 4, 5] (by decide) rfl (by simp)
      · rw [dirtyTo_none (hgd.trans c1)]; exact h8
    have hil : i = d.length := by simp at c; omega
    subst hil
    have hdn : d.length ≤ 300 := by
      have h1 := ok.d; have := ok.n1
      have h2 := pgs_le (n := l.length) (per := p1) (by omega) ok.p1
      omega
    have hll := dirtyL_len d
    refine dirty_spec (rx h8) (h8.list 2 rfl) hfew fun q2 H9 h9 => ?_
    have tk : (dirtyL d).take (400 : Int).toNat = dirtyL d := List.take_of_length_le (by show (dirtyL d).length ≤ 400; omega)
    rw [tk] at h9
    have h10 := h8.over h9
    refine ints_spec (h9.list 1 rfl) (h10.list (enc := E) 5 rfl) (by omega) ?_
    rw [decide_eq_true (show dirtyL d = dirtyTo d d.length from rfl)]
    refine mIf_neg rfl ?_
    rw [wrap_succ (by omega)]
    exact hag hjl _ _ ⟨rfl, l, d, hl, ok, h10.pick [0, 1, 2, 3, 4] (by decide) rfl (by simp)⟩
  clear hag
  have hn300 : l.length ≤ 300 := by omega
  have stay : ∀ {H'}, Stars H' [baseO B, vecO E s l, vecO Value.bool t d, vecO E r35 l, vecO Value.bool dq d, rowO a63 [.int .i64 kind, .int .i64 at', .int .i64 v, Sl.v pk]] → k' dq H' := fun {H'} h => hk' _ _ ⟨l, d, hl, ok, h.pick [0, 1, 2, 3, 4] (by decide) rfl (by simp)⟩
  refine mIf_intro (fun _ => ?_) (fun _ => mIf_intro (fun _ => ?_) (fun _ => mIf_intro (fun _ => ?_) (fun _ => mIf_intro (fun _ => ?_) (fun _ => stay h6))))
  · -- Set
    refine S_ld (enc := Value.int .i64) (x := at') h6 5 rfl rfl ?_
    have goal : ∀ b : Bool, b = decide (0 ≤ at' ∧ at' < (l.length : Int)) → mLd (.int .i64) H6 (a63.add 1) fun x111 => mLd (.int .i64) H6 (a63.add 2) fun x113 => paged_Paged_int_Set (some a) x111 x113 H6 fun y116 H115 =>
        mIf (y116 != b) (DoneD H false H115) (mJoin (fun (s119 : Bool) (H121 : PH) => mIf s119
          (mLd (.int .i64) H121 (a63.add 1) fun x124 => mLd (.int .i64) H121 (a63.add 2) fun x126 => mIdx r35 1 x124 fun a128 => mSt H121 a128 ([.int .i64 x126]) fun H130 => mLd (.int .i64) H130 (a63.add 1) fun x132 => mNe p1 <|
            mIdx dq 1 (IntKind.wrap .i64 (Int.tdiv x132 p1)) fun a135 => mSt H130 a135 ([.bool true]) fun H137 => k' dq H137)
          (k' dq H121))
          fun j120 => mIf b (mLd (.int .i64) H115 (a63.add 1) fun x139 => mIdx r35 1 x139 fun a141 => mLd (.int .i64) H115 a141 fun x143 => mLd (.int .i64) H115 (a63.add 2) fun x145 => j120 (x143 != x145) H115) (j120 false H115)) := by
      rintro b rfl
      refine S_ld (enc := Value.int .i64) (x := at') h6 5 rfl rfl (S_ld (enc := Value.int .i64) (x := v) h6 5 rfl rfl ?_)
      refine set_spec h6 (rx h6) 1 2 rfl rfl (by decide) ok fun H7 h7 => mIf_neg (by simp) (mJoin_intro ?_)
      have h7' : Stars H7 [baseO B, vecO E s (setL ne l at' v), vecO Value.bool t (setD ne p1 l d at' v), vecO E r35 l, vecO Value.bool dq d, rowO a63 [.int .i64 kind, .int .i64 at', .int .i64 v, Sl.v pk]] := h7
      have no : hitAt ne l at' v = false → k' dq H7 := fun hh => by
        rw [setL, setD, if_neg (by simp [hh]), if_neg (by simp [hh])] at h7'
        exact stay h7'
      refine mIf_intro (fun cin => ?_) (fun cin => mIf_neg rfl (no ?_))
      · obtain ⟨i0, i1⟩ := of_decide_eq_true cin
        refine S_ld (enc := Value.int .i64) (x := at') h7' 5 rfl rfl (idx_ld (h7'.list (enc := E) 3 rfl) i0 i1 fun w hw => S_ld (enc := Value.int .i64) (x := v) h7' 5 rfl rfl ?_)
        have hh := hit_in (v := v) i0 i1 hw
        refine mIf_intro (fun cw => ?_) (fun cw => no (by rw [hh]; exact cw))
        refine S_ld (enc := Value.int .i64) (x := at') h7' 5 rfl rfl (S_ld (enc := Value.int .i64) (x := v) h7' 5 rfl rfl (S_put (enc := E) h7' 3 rfl i0 i1 rfl fun H8 h8 => ?_))
        have hpg := in_page ok.p1 i0 i1
        have hdd := ok.d
        refine S_ld (enc := Value.int .i64) (x := at') h8 5 rfl rfl ⟨by omega, ?_⟩
        rw [tdiv_div i0, wrap64_id (by omega) (by omega)]
        refine S_put (enc := Value.bool) h8 4 rfl hpg.1 (by omega) rfl fun H9 h9 => hk' _ _ ⟨setL ne l at' v, setD ne p1 l d at' v, by rw [setL_len]; exact hl, ok.set _ _, ?_⟩
        have eL : setL ne l at' v = l.set at'.toNat v := setL_in i0 i1
        have eD : setD ne p1 l d at' v = d.set (at' / p1).toNat true := by rw [setD, if_pos (by rw [hh]; exact cw)]
        rw [eL, eD] at h9 ⊢
        exact h9.pick [0, 1, 2, 3, 4] (by decide) rfl (by simp)
      · rw [hitAt, cin]; rfl
    refine mJoin_intro (mIf_intro (fun c5 => S_ld (enc := Value.int .i64) (x := at') h6 5 rfl rfl (goal _ ?_)) (fun c5 => goal _ ?_))
    · have c5' : 0 ≤ at' := by simpa using c5
      rw [hl]; simp [c5']
    · have c5' : ¬ 0 ≤ at' := by simpa using c5
      simp [c5']
  · -- Load
    refine S_ld (enc := Value.int .i64) (x := at') h6 5 rfl rfl ?_
    have hyl := hpk.lenI
    have goal : ∀ b : Bool, b = decide ((0 ≤ at' ∧ at' < (d.length : Int)) ∧ ys.length = (pageOf l p1 d at').length) → mLd (.int .i64) H6 (a63.add 1) fun x162 => mLd Sl.v H6 (a63.add 3) fun x164 => paged_Paged_int_Load (some a) x162 x164 H6 fun y167 H166 =>
        mIf (y167 != b) (DoneD H false H166) (mIf b
          (mLd (.int .i64) H166 (a63.add 1) fun x170 => mCut r35 1 (IntKind.wrap .i64 (x170 * p1)) (r35.len : Int) fun r173 => mLd Sl.v H166 (a63.add 3) fun x174 => mCopy H166 1 r173 x174 fun x176 H177 => mLd (.int .i64) H177 (a63.add 1) fun x178 =>
            mIdx dq 1 x178 fun a180 => mSt H177 a180 ([.bool false]) fun H182 => k' dq H182)
          (k' dq H166)) := by
      rintro b rfl
      refine S_ld (enc := Value.int .i64) (x := at') h6 5 rfl rfl (S_ld (x := pk) h6 5 rfl rfl ?_)
      refine load_spec h6 (rx h6) 1 2 rfl rfl (by decide) ok (fun H' h' => rx (show Stars H' (baseO B :: _) from h')) (hpk.ext (hx h6)) fun H7 h7 => mIf_neg (by simp) ?_
      have h7' : Stars H7 [baseO B, vecO E s (loadL p1 l d at' ys), vecO Value.bool t (loadD p1 l d at' ys), vecO E r35 l, vecO Value.bool dq d, rowO a63 [.int .i64 kind, .int .i64 at', .int .i64 v, Sl.v pk]] := h7
      refine mIf_intro (fun cin => ?_) (fun cin => ?_)
      · have hh := of_decide_eq_true cin
        have hpg := page_lt (n := l.length) ok.p1 hh.1.1 (by have := ok.d; omega)
        have hpz := page_size ok hh.1.1 hh.1.2
        have h0 : 0 ≤ at' * p1 := Int.mul_nonneg hh.1.1 (by have := ok.p1; omega)
        have hr35 := (h7'.list (enc := E) 3 rfl).lenI
        refine S_ld (enc := Value.int .i64) (x := at') h7' 5 rfl rfl ?_
        rw [hr35, wrap64_id (by omega) (by omega)]
        refine S_cut (enc := E) h7' 3 rfl h0 (by omega) (Int.le_refl _) fun _ => S_ld (x := pk) h7' 5 rfl rfl ?_
        refine S_cutcopy (enc := E) h7' 3 rfl (by omega) (by omega) (hpk.ext (hx h7')) cvT fun H8 h8 => S_ld (enc := Value.int .i64) (x := at') h8 5 rfl rfl ?_
        refine S_put (enc := Value.bool) h8 4 rfl hh.1.1 hh.1.2 rfl fun H9 h9 => hk' _ _ ⟨loadL p1 l d at' ys, loadD p1 l d at' ys, by rw [loadL_len _ _ _ _ _ ok]; exact hl, ok.load _ _, ?_⟩
        have h2 := hh.2
        have eL : l.take (at' * p1).toNat ++ ys.take ((l.length : Int).toNat - (at' * p1).toNat) ++ l.drop ((at' * p1).toNat + min ys.length ((l.length : Int).toNat - (at' * p1).toNat)) = loadL p1 l d at' ys := by
          rw [loadL, if_pos hh, show ys.take ((l.length : Int).toNat - (at' * p1).toNat) = ys from List.take_of_length_le (by omega), Nat.min_eq_left (by omega)]
        have eD : d.set at'.toNat false = loadD p1 l d at' ys := by rw [loadD, if_pos hh]
        rw [eL] at h9
        have h10 := h9.pick [0, 1, 2, 3, 4] (L' := [baseO B, vecO E s (loadL p1 l d at' ys), vecO Value.bool t (loadD p1 l d at' ys), vecO E r35 (loadL p1 l d at' ys), vecO Value.bool dq (d.set at'.toNat false)]) (by decide) rfl (by simp)
        rw [eD] at h10
        exact h10
      · have hh : ¬ ((0 ≤ at' ∧ at' < (d.length : Int)) ∧ ys.length = (pageOf l p1 d at').length) := of_decide_eq_false cin
        rw [loadL, loadD, if_neg hh, if_neg hh] at h7'
        exact stay h7'
    have hdq := (h6.list (enc := Value.bool) 4 rfl).lenI
    have mid : ∀ b : Bool, b = decide (0 ≤ at' ∧ at' < (d.length : Int)) → mJoin (fun (s158 : Bool) (H160 : PH) => mLd (.int .i64) H160 (a63.add 1) fun x162 => mLd Sl.v H160 (a63.add 3) fun x164 => paged_Paged_int_Load (some a) x162 x164 H160 fun y167 H166 =>
        mIf (y167 != s158) (DoneD H false H166) (mIf s158
          (mLd (.int .i64) H166 (a63.add 1) fun x170 => mCut r35 1 (IntKind.wrap .i64 (x170 * p1)) (r35.len : Int) fun r173 => mLd Sl.v H166 (a63.add 3) fun x174 => mCopy H166 1 r173 x174 fun x176 H177 => mLd (.int .i64) H177 (a63.add 1) fun x178 =>
            mIdx dq 1 x178 fun a180 => mSt H177 a180 ([.bool false]) fun H182 => k' dq H182)
          (k' dq H166)))
        fun j159 => mIf b (mLd Sl.v H6 (a63.add 3) fun x184 => mLd (.int .i64) H6 (a63.add 1) fun x186 => mLd (.int .i64) H6 (a63.add 1) fun x188 =>
          j159 ((x184.len : Int) == (IntKind.wrap .i64 ((if p0 < (IntKind.wrap .i64 ((IntKind.wrap .i64 (x186 + 1)) * p1)) then p0 else (IntKind.wrap .i64 ((IntKind.wrap .i64 (x186 + 1)) * p1))) - (IntKind.wrap .i64 (x188 * p1))))) H6) (j159 false H6) := by
      rintro b rfl
      refine mJoin_intro (mIf_intro (fun cin => ?_) (fun cin => goal _ ?_))
      · have hh := of_decide_eq_true cin
        have hpg := page_lt (n := l.length) ok.p1 hh.1 (by have := ok.d; omega)
        have hpz := page_size ok hh.1 hh.2
        have h0 : 0 ≤ at' * p1 := Int.mul_nonneg hh.1 (by have := ok.p1; omega)
        have e9 : (at' + 1) * p1 = at' * p1 + p1 := by rw [Int.add_mul, Int.one_mul]
        refine S_ld (x := pk) h6 5 rfl rfl (S_ld (enc := Value.int .i64) (x := at') h6 5 rfl rfl (S_ld (enc := Value.int .i64) (x := at') h6 5 rfl rfl ?_))
        rw [wrap64_id (x := at' + 1) (by omega) (by omega), wrap64_id (x := (at' + 1) * p1) (by omega) (by omega), wrap64_id (x := at' * p1) (by omega) (by omega)]
        have em : (if p0 < (at' + 1) * p1 then p0 else (at' + 1) * p1) = min (l.length : Int) ((at' + 1) * p1) := by split <;> omega
        rw [em, ← hpz, wrap64_id (by omega) (by omega)]
        refine goal _ ?_
        rw [hyl]
        simp [hh]
        by_cases h : ys.length = (pageOf l p1 d at').length <;> simp [h] <;> omega
      · have hh := of_decide_eq_false cin
        exact (decide_eq_false fun h => hh h.1).symm
    refine mJoin_intro (mIf_intro (fun c5 => S_ld (enc := Value.int .i64) (x := at') h6 5 rfl rfl (mid _ ?_)) (fun c5 => mid _ ?_))
    · have c5' : 0 ≤ at' := by simpa using c5
      rw [hdq]; simp [c5']
    · have c5' : ¬ 0 ≤ at' := by simpa using c5
      simp [c5']
  · -- Clean
    have hdq := (h6.list (enc := Value.bool) 4 rfl).lenI
    refine clean_spec h6 (rx h6) 2 rfl fun H7 h7 => ?_
    rw [hdq]
    refine S_mk (enc := Value.bool) (x := false) h7 (by omega) (by omega) fun r9 H8 h8 x8 => hk' _ _ ⟨l, List.replicate d.length false, hl, ok.clean, ?_⟩
    rw [Int.toNat_natCast] at h8
    exact h8.pick [0, 1, 2, 3, 6] (by decide) rfl (by simp)
  · -- Get
    refine S_ld (enc := Value.int .i64) (x := at') h6 5 rfl rfl ?_
    have goal : ∀ (y : Int) (b : Bool), b = decide (0 ≤ at' ∧ at' < (l.length : Int)) → (b = true → l[at'.toNat]? = some y) → (b = false → y = 0) →
        mJoin (fun (s212 : Bool) (H214 : PH) => mJoin (fun (s217 : Bool) (H219 : PH) => mIf s217 (DoneD H false H219) (k' dq H219)) fun j218 => mIf s212 (j218 true H214) (mJoin (fun (s223 : Bool) (H225 : PH) => j218 s223 H225) fun j224 => mIf (!b) (j224 (y != 0) H214) (j224 false H214)))
        fun j213 => mIf (b != b) (j213 true H6) (mJoin (fun (s228 : Bool) (H230 : PH) => j213 s228 H230) fun j229 => mIf b (mLd (.int .i64) H6 (a63.add 1) fun x232 => mIdx r35 1 x232 fun a234 => mLd (.int .i64) H6 a234 fun x236 => j229 (y != x236) H6) (j229 false H6)) := by
      rintro y b rfl hy1 hy2
      refine mJoin_intro (mIf_neg (by simp) (mJoin_intro (mIf_intro (fun cin => ?_) (fun cin => ?_))))
      · obtain ⟨i0, i1⟩ := of_decide_eq_true cin
        refine S_ld (enc := Value.int .i64) (x := at') h6 5 rfl rfl (idx_ld (h6.list (enc := E) 3 rfl) i0 i1 fun w hw => ?_)
        have e : (y != w) = false := by
          have := hy1 cin
          rw [hw] at this
          cases this
          simp
        rw [e]
        exact mJoin_intro (mIf_neg rfl (mJoin_intro (mIf_neg (by rw [cin]; rfl) (mIf_neg rfl (stay h6)))))
      · have e : (y != 0) = false := by rw [hy2 cin]; rfl
        refine mJoin_intro (mIf_neg rfl (mJoin_intro (mIf_pos (by rw [cin]; rfl) ?_)))
        rw [e]
        exact mIf_neg rfl (stay h6)
    have fin : ∀ (y : Int) (b : Bool), b = decide (0 ≤ at' ∧ at' < (l.length : Int)) → (b = true → l[at'.toNat]? = some y) → (b = false → y = 0) →
        mLd (.int .i64) H6 (a63.add 1) fun x204 => mJoin (fun (s207 : Bool) (H209 : PH) =>
        mJoin (fun (s212 : Bool) (H214 : PH) => mJoin (fun (s217 : Bool) (H219 : PH) => mIf s217 (DoneD H false H219) (k' dq H219)) fun j218 => mIf s212 (j218 true H214) (mJoin (fun (s223 : Bool) (H225 : PH) => j218 s223 H225) fun j224 => mIf (!s207) (j224 (y != 0) H214) (j224 false H214)))
        fun j213 => mIf (b != s207) (j213 true H209) (mJoin (fun (s228 : Bool) (H230 : PH) => j213 s228 H230) fun j229 => mIf s207 (mLd (.int .i64) H209 (a63.add 1) fun x232 => mIdx r35 1 x232 fun a234 => mLd (.int .i64) H209 a234 fun x236 => j229 (y != x236) H209) (j229 false H209)))
        fun j208 => mIf (decide (0 ≤ x204)) (mLd (.int .i64) H6 (a63.add 1) fun x238 => j208 (decide (x238 < p0)) H6) (j208 false H6) := by
      intro y b hb hy1 hy2
      refine S_ld (enc := Value.int .i64) (x := at') h6 5 rfl rfl (mJoin_intro (mIf_intro (fun c5 => S_ld (enc := Value.int .i64) (x := at') h6 5 rfl rfl ?_) (fun c5 => ?_)))
      · have c5' : 0 ≤ at' := by simpa using c5
        have e : decide (at' < p0) = b := by rw [hb, hl]; simp [c5']
        rw [e]
        exact goal y b hb hy1 hy2
      · have c5' : ¬ 0 ≤ at' := by simpa using c5
        have e : b = false := by rw [hb]; simp [c5']
        have := goal y b hb hy1 hy2
        rw [e] at this ⊢
        exact this
    refine get_spec (rx h6) (h6.list 1 rfl) (fun y i0 i1 hy => ?_) (fun hn => ?_)
    · exact fin y true (decide_eq_true ⟨i0, i1⟩).symm (fun _ => hy) (fun h => by cases h)
    · exact fin 0 false (decide_eq_false hn).symm (fun h => by cases h) (fun _ => rfl)
end Go.Proofs.Ytgnnfafidhfhfaa

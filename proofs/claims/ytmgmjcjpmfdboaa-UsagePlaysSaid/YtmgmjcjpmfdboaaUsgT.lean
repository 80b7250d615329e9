/- THE LAW UsagePlays, on formulas. -/
import Derived.Test.YtmgmjcjpmfdboaaUsgR
set_option linter.unusedVariables false
set_option linter.unusedSimpArgs false
namespace Go.Proofs.Ytmgmjcjpmfdboaa
open Go Go.Kx

section
variable {H : PH} {L : List Ob} {a : Addr} {c : Cfg} {s t : Sl} {l : List Use} {v : List Int}
theorem row_cells {cs : List Value} (r : RowAt H a cs) : cellsAt H a cs.length = some cs := by
  obtain ⟨e1, e2, e, e3⟩ := r
  have ea : a = ⟨a.block, 0, none⟩ := by cases a; simp_all
  rw [ea, cellsAt_of_row e3 (by omega), List.drop_zero, List.take_length]
theorem r_release {B : PH} {Q : Sl → PH → Prop} (h : Stars H (baseO B :: L)) (r : RowAt B a (rowR c s t)) (i j : Nat) (hi : L[i]? = some (vecNO encU 2 s l)) (hj : L[j]? = some (vecO (Value.int .i64) t v)) (hij : i ≠ j) (hv : v.length = l.length) (hn : l.length < 2 ^ 30)
    (hQ : ∀ q H', Stars H' (baseO B :: (L.set i (vecNO encU 2 s (relL l v)) ++ [vecO (Value.int .i64) q (outL l v)])) → Q q H') : keelsonref11_Table_Release (some a) H Q := by
  have hil := (List.getElem?_eq_some_iff.1 hi).1
  have hsl : (s.len : Int) = l.length := by
    have hs : VecN encU 2 H s l := h.get (i + 1) (by simpa using hi)
    exact hs.lenI
  have h0 := h.nilv (enc := Value.int .i64)
  refine mLoop_count l.length (fun k st Hk => st.2 = (k : Int) ∧ Stars Hk (baseO B :: (L.set i (vecNO encU 2 s (relTo l v k)) ++ [vecO (Value.int .i64) st.1 (outTo l v k)]))) ⟨rfl, by
    show Stars H (baseO B :: (L.set i (vecNO encU 2 s l) ++ [vecO (Value.int .i64) Sl.nil []]))
    rw [set_same hi]; exact h0⟩ ?_
  rintro k ⟨q, st⟩ H1 again hk ⟨e, h1⟩ hag
  simp only at e h1
  subst e
  refine nil_some (ld_row (x := s) (r.ext h1.base) rfl ?_)
  rw [hsl]
  refine mIf_intro (fun c => ?_) (fun c => ?_)
  · have hkl : k < l.length := by simpa using c
    have gi : (baseO B :: (L.set i (vecNO encU 2 s (relTo l v k)) ++ [vecO (Value.int .i64) q (outTo l v k)]))[i + 1]? = some (vecNO encU 2 s (relTo l v k)) := by
      rw [List.getElem?_cons_succ, List.getElem?_append_left (by rw [List.length_set]; exact hil), List.getElem?_set_self hil]
    have gj : (baseO B :: (L.set i (vecNO encU 2 s (relTo l v k)) ++ [vecO (Value.int .i64) q (outTo l v k)]))[j + 1]? = some (vecO (Value.int .i64) t v) := by
      rw [List.getElem?_cons_succ, List.getElem?_append_left (by rw [List.length_set]; exact (List.getElem?_eq_some_iff.1 hj).1), List.getElem?_set_ne hij, hj]
    have hs1 : VecN encU 2 H1 s (relTo l v k) := h1.get (i + 1) gi
    have hlen := relTo_len l v k
    have hx0 : l[k]? = some l[k] := List.getElem?_eq_getElem hkl
    have hgd : l.getD k (0, 0) = l[k] := by simp [List.getD, hx0]
    simp only []
    rw [wrap_succ (k := k) (by omega)]
    have no : idleAt l v k = false → again (q, ((k + 1 : Nat) : Int)) H1 := fun c1 => hag hkl _ _ ⟨rfl, by
      have e2 : relTo l v (k + 1) = relTo l v k := by
        show (if idleAt l v k then (relTo l v k).set k (0, (l.getD k (0, 0)).2) else relTo l v k) = _
        rw [if_neg (by rw [c1]; decide)]
      rw [e2, outTo_none c1]; exact h1⟩
    refine mJoin_intro (nil_some (ld_row (x := s) (r.ext h1.base) rfl (idxL (hs1.listN lenU) (by omega) (by omega) fun b x hx hc => ld0 hc (mJoin_intro ?_))))
    rw [Int.toNat_natCast, relTo_at, hx0] at hx
    cases hx
    refine mIf_intro (fun c1 => ?_) (fun c1 => mIf_neg rfl (no (by rw [idleAt, hgd, c1]; rfl)))
    refine nil_some (ld_row (x := t) (r.ext h1.base) rfl (idx_ld (h1.list (j + 1) gj) (by omega) (by omega) fun y hy => ?_))
    rw [Int.toNat_natCast] at hy
    have hid : idleAt l v k = (y == 0) := by rw [idleAt, hgd, c1, Bool.true_and]; simp [List.getD, hy]
    refine mIf_intro (fun c2 => ?_) (fun c2 => no (hid.trans c2))
    have c1 : idleAt l v k = true := hid.trans c2
    refine nil_some (ld_row (x := s) (r.ext h1.base) rfl (idxN hs1 (by omega) (by omega) fun b x el => S_stF lenU (0, x.2) h1 (i + 1) gi el (by decide) rfl rfl fun H2 h2 => ?_))
    have hx := el.get
    rw [Int.toNat_natCast, relTo_at] at hx
    have e2 : (relTo l v k).set (k : Int).toNat (0, x.2) = relTo l v (k + 1) := by
      show _ = if idleAt l v k then (relTo l v k).set k (0, (l.getD k (0, 0)).2) else relTo l v k
      rw [if_pos c1, Int.toNat_natCast]; simp [List.getD, hx]
    rw [e2] at h2
    have h2' : Stars H2 (baseO B :: (L.set i (vecNO encU 2 s (relTo l v (k + 1))) ++ [vecO (Value.int .i64) q (outTo l v k)])) := by
      rw [List.set_cons_succ, List.set_append_left _ _ (by rw [List.length_set]; exact hil), List.set_set] at h2
      exact h2
    have ho := outTo_len l v k
    refine S_new1 (enc := Value.int .i64) h2' fun q1 H3 h3 x3 => ?_
    have eL : (baseO B :: (L.set i (vecNO encU 2 s (relTo l v (k + 1))) ++ [vecO (Value.int .i64) q (outTo l v k)]) ++ [vecO (Value.int .i64) q1 [(k : Int)]]) = (baseO B :: L.set i (vecNO encU 2 s (relTo l v (k + 1)))) ++ [vecO (Value.int .i64) q (outTo l v k)] ++ [vecO (Value.int .i64) q1 [(k : Int)]] := by simp
    rw [eL] at h3
    refine S_app (ys := [(k : Int)]) h3 (baseO B :: L.set i (vecNO encU 2 s (relTo l v (k + 1)))).length (by rw [List.append_assoc, List.getElem?_append_right (Nat.le_refl _), Nat.sub_self]; rfl) (h3.list ((baseO B :: L.set i (vecNO encU 2 s (relTo l v (k + 1)))) ++ [vecO (Value.int .i64) q (outTo l v k)]).length (get_last _ _)) cvI rfl (by simp; omega) fun r3 H4 h4 => hag hkl _ _ ⟨rfl, ?_⟩
    rw [List.append_assoc, List.set_append_right _ _ (Nat.le_refl _), Nat.sub_self] at h4
    have h5 : Stars H4 (((baseO B :: L.set i (vecNO encU 2 s (relTo l v (k + 1)))) ++ [vecO (Value.int .i64) r3 (outTo l v k ++ [(k : Int)])]) ++ [vecO (Value.int .i64) q1 [(k : Int)]]) := by
      rw [List.append_assoc]; exact h4
    rw [outTo_some c1]
    exact h5.init
  · have : k = l.length := by simp at c; omega
    subst this
    exact hQ q H1 h1
theorem r_new {x : Sl} {ul : List Use} {Q : Option Addr → PH → Prop} (hc : CfgOk c) (hx : ListN encU 2 H x ul) (hul : ul.length < 2 ^ 40)
    (hbad : ¬ ((ul = [] ∨ (ul.length : Int) = c.2.1) ∧ ∀ u, u ∈ ul → okU u = true) → ∀ H', Ext H H' → Q none H')
    (hgood : (ul = [] ∨ (ul.length : Int) = c.2.1) → (∀ u, u ∈ ul → okU u = true) → ∀ a s t H', Stars H' [baseO H, vecNO encU 2 s (iniL c.2.1.toNat ul), vecO (Value.int .i64) t (List.replicate c.2.1.toNat 0), rowO a (rowR c s t)] → Q (some a) H') : keelsonref11_NewTable c x H Q := by
  have hcl := hc.2.2.1; have hcu := hc.2.2.2.1
  have hxl := hx.lenI
  refine S_row (Stars.start H) fun a1 H1 h1 x1 => mJoin_intro ?_
  have r1 : RowAt H1 a1 (cfgL c) := h1.get 1 rfl
  refine ldr_row (x := c) r1 rfl (ld_row (x := c.2.1) r1 rfl (ld_row (x := c.2.1) r1 rfl ⟨⟨by omega, by omega, by omega⟩, ⟨by omega, by omega, by omega⟩, S_mkSIN (enc := encU) (sz := 2) (x := (0, 0)) h1 rfl fun r5 H5 h5 x5 => ?_⟩))
  have r5' : RowAt H5 a1 (cfgL c) := h5.get 1 rfl
  refine same_row r5' rfl ⟨row_cells r5', S_mkSI (enc := Value.int .i64) (x := 0) h5 fun r6 H6 h6 x6 => ⟨row_cells (h6.get 1 rfl : RowAt H6 a1 (cfgL c)), S_row h6 fun a7 H7 h7 x7 => ?_⟩⟩
  have h7' : Stars H7 [baseO H, rowO a1 (cfgL c), vecNO encU 2 r5 (List.replicate c.2.1.toNat (0, 0)), vecO (Value.int .i64) r6 (List.replicate c.2.1.toNat 0), rowO a7 (rowR c r5 r6)] := h7
  refine mIf_intro (fun c1 => ?_) (fun c1 => ld_row (x := c.2.1) (h7'.get 1 rfl : RowAt H7 a1 (cfgL c)) rfl (mIf_intro (fun c2 => hbad (fun hh => ?_) H7 h7'.base) (fun c2 => ?_)))
  · have : ul = [] := List.length_eq_zero_iff.1 (by rw [hxl] at c1; simpa using c1)
    subst this
    exact hgood (.inl rfl) (fun u hu => by simp at hu) a7 r5 r6 H7 (by
      have := h7'.pick [0, 2, 3, 4] (L' := [baseO H, vecNO encU 2 r5 (List.replicate c.2.1.toNat (0, 0)), vecO (Value.int .i64) r6 (List.replicate c.2.1.toNat 0), rowO a7 (rowR c r5 r6)]) (by decide) rfl (by simp)
      simpa [iniL] using this)
  · rw [hxl] at c1 c2
    rcases hh.1 with h | h
    · subst h; simp at c1
    · simp [h] at c2
  · have hlen : (ul.length : Int) = c.2.1 := by rw [hxl] at c2; simpa using c2
    refine mLoop_count ul.length (fun k st Hk => st = (k : Int) ∧ (∀ i u, i < k → ul[i]? = some u → okU u = true) ∧ Stars Hk [baseO H, rowO a1 (cfgL c), vecNO encU 2 r5 (ul.take k ++ List.replicate (ul.length - k) (0, 0)), vecO (Value.int .i64) r6 (List.replicate c.2.1.toNat 0), rowO a7 (rowR c r5 r6)]) ⟨rfl, fun i u hi => absurd hi (by omega), by
      have e : c.2.1.toNat = ul.length := by omega
      rw [List.take_zero, List.nil_append, Nat.sub_zero, ← e]; exact h7'⟩ ?_
    rintro k st H8 again hk ⟨rfl, hok, h8⟩ hag
    rw [hxl]
    refine mIf_intro (fun c3 => ?_) (fun c3 => ?_)
    · have hkl : k < ul.length := by simpa using c3
      obtain ⟨u, hu⟩ : ∃ u, ul[k]? = some u := ⟨_, List.getElem?_eq_getElem hkl⟩
      have bad : okU u = false → Q none H8 := fun hb => hbad (fun hh => by have := hh.2 u (List.mem_of_getElem? hu); rw [hb] at this; cases this) H8 h8.base
      have fetch : ∀ {K : Addr → Prop}, (∀ b, cellsAt H8 b 2 = some (encU u) → K b) → mIdx x 2 (k : Int) K := fun {K} hK => idxL (hx.ext h8.base) (by simp) (by simpa using hkl) fun b w hw hc => hK b (by rw [Int.toNat_natCast, hu] at hw; cases hw; exact hc)
      refine fetch fun b hcb => ld0 hcb (rwithin (mJoin_intro (mIf_intro (fun c4 => mIf_pos rfl (bad ?_)) (fun c4 => fetch fun b2 hcb2 => ld1 hcb2 (rwithin (mIf_intro (fun c5 => bad ?_) (fun c5 => ?_)))))))
      · rw [okU]
        have : (decide (0 ≤ u.1) && decide (u.1 ≤ 2)) = false := by simp at c4 ⊢; omega
        rw [this, Bool.false_and]
      · rw [okU]
        have : (decide (0 ≤ u.2) && decide (u.2 ≤ 2147483647)) = false := by simp at c5 ⊢; omega
        rw [this, Bool.and_false]
      · have hs8 : VecN encU 2 H8 r5 _ := h8.get 2 rfl
        refine nil_some (S_ld (x := r5) h8 4 rfl rfl (fetch fun b3 hcb3 => ldU hcb3 (idxN hs8 (by omega) (by simp; omega) fun b4 y el => S_stN lenU u h8 2 rfl el (cvU u) fun H9 h9 => ?_)))
        rw [wrap_succ (by omega)]
        refine hag hkl _ _ ⟨rfl, fun i w hi hw => ?_, ?_⟩
        · by_cases e : i = k
          · subst e; rw [hu] at hw; cases hw
            simp at c4 c5
            simp [okU]; omega
          · exact hok i w (by omega) hw
        · have e : (ul.take k ++ List.replicate (ul.length - k) (0, 0)).set (k : Int).toNat u = ul.take (k + 1) ++ List.replicate (ul.length - (k + 1)) (0, 0) := by
            have hl : (ul.take k).length = k := by rw [List.length_take]; omega
            rw [Int.toNat_natCast, List.set_append_right _ _ (by omega), hl, Nat.sub_self, show ul.length - k = (ul.length - (k + 1)) + 1 by omega, List.replicate_succ, List.set_cons_zero, List.take_add_one, hu, List.append_assoc]; rfl
          rw [e] at h9
          exact h9
    · have hk' : k = ul.length := by simp at c3; omega
      subst hk'
      have hall : ∀ u, u ∈ ul → okU u = true := fun u hu => by
        obtain ⟨i, hi⟩ := List.getElem?_of_mem hu
        exact hok i u (List.getElem?_eq_some_iff.1 hi).1 hi
      refine hgood (.inr hlen) hall a7 r5 r6 H8 ?_
      have := h8.pick [0, 2, 3, 4] (L' := [baseO H, vecNO encU 2 r5 (ul.take ul.length ++ List.replicate (ul.length - ul.length) (0, 0)), vecO (Value.int .i64) r6 (List.replicate c.2.1.toNat 0), rowO a7 (rowR c r5 r6)]) (by decide) rfl (by simp)
      have e : iniL c.2.1.toNat ul = ul.take ul.length ++ List.replicate (ul.length - ul.length) (0, 0) := by
        rw [iniL, List.take_length, Nat.sub_self, List.drop_of_length_le (by rw [List.length_replicate]; omega)]; rfl
      rw [e]; exact this
theorem same_spec {b : Addr} {p : Option Addr} {s' t' : Sl} {Q : Bool → PH → Prop} (r : RowAt H a (tabRow p s t)) (rr : RowAt H b (rowR c s' t')) (hs : ListN encU 2 H s l) (ht : Ints H t v) (hs' : ListN encU 2 H s' l) (ht' : Ints H t' v) (hv : v.length = l.length) (hn : l.length ≤ 90)
    (hQ : ∀ H', Ext H H' → Q true H') : keelsonlaw12_same (some a) (some b) H Q := by
  refine mLoop_count (l.length + 2) (fun k st Hk => st = (k : Int) - 1 ∧ Ext H Hk) ⟨rfl, .refl H⟩ ?_
  rintro k st H1 again hk ⟨rfl, x1⟩ hag
  refine nil_some (ld_row (x := s') (rr.ext x1) rfl ?_)
  rw [hs'.lenI]
  refine mIf_intro (fun c1 => ?_) (fun _ => ?_)
  · have hkl : k < l.length + 2 := by simp at c1; omega
    refine r_use (rr.ext x1) (hs'.ext x1) (by omega) fun H2 x2 => new_row fun a12 H3 x3 r3 f3 => st_row (vs := encU (getZ (0, 0) l ((k : Int) - 1))) r3 rfl rfl fun H4 r4 k4 => ?_
    have x4 : Ext H H4 := (x1.trans x2).trans (x3.keepB k4 f3)
    refine ld_row (x := (getZ (0, 0) l ((k : Int) - 1)).1) r4 rfl (state_spec (r.ext x4) (hs.ext x4) (same_row r4 rfl (mJoin_intro (mIf_neg (by simp) ?_))))
    refine ld_row (x := (getZ (0, 0) l ((k : Int) - 1)).2) r4 rfl (stamp_spec (r.ext x4) (hs.ext x4) (same_row r4 rfl ?_))
    refine mJoin_intro (mIf_neg (by simp) (live_spec (r.ext x4) hs.lenI (ht.ext x4) hv (r_lives (rr.ext x4) hs'.lenI (by omega) (ht'.ext x4) hv (mIf_neg (by simp) ?_))))
    rw [wrap64_id (by omega) (by omega)]
    exact hag hkl _ _ ⟨by push_cast; omega, x4⟩
  · have hn30 : l.length < 2 ^ 30 := by omega
    refine free_spec (r.ext x1) (hs.ext x1) (by omega) fun H2 x2 => ?_
    have x12 := x1.trans x2
    refine r_free (rr.ext x12) (hs'.ext x12) (by omega) (mJoin_intro (mIf_pos (by simp) ?_))
    refine uses_spec (r.ext x12) (hs.ext x12) (ht.ext x12) hv hn30 fun q3 H3 h3 => ?_
    have x13 := x12.trans h3.base
    refine r_told (rr.ext x13) (hs'.ext x13) (ht'.ext x13) hv hn30 fun q4 H4 h4 => ?_
    have v3 : VecN encU 2 H3 q3 l := h3.get 1 rfl
    have v4 : VecN encU 2 H4 q4 l := h4.get 1 rfl
    have x14 := x13.trans h4.base
    refine useq_spec ((v3.listN lenU).ext h4.base) (v4.listN lenU) (by omega) ?_
    rw [decide_eq_true rfl]
    refine mJoin_intro (mIf_pos rfl (uses_spec (r.ext x14) (hs.ext x14) (ht.ext x14) hv hn30 fun q5 H5 h5 => ?_))
    have x15 := x14.trans h5.base
    refine r_told (rr.ext x15) (hs'.ext x15) (ht'.ext x15) hv hn30 fun q6 H6 h6 => ?_
    have v5 : VecN encU 2 H5 q5 (relL l v) := h5.get 1 rfl
    have v6 : VecN encU 2 H6 q6 (relL l v) := h6.get 1 rfl
    have x16 := x15.trans h6.base
    refine useq_spec ((v5.listN lenU).ext h6.base) (v6.listN lenU) (by rw [relL, relTo_len]; omega) ?_
    rw [decide_eq_true rfl]
    refine mJoin_intro (mIf_pos rfl (sealed_spec (r.ext x16) (hs.ext x16) hn30 fun q7 H7 h7 => ?_))
    have x17 := x16.trans h7.base
    refine r_sealed (rr.ext x17) (hs'.ext x17) hn30 fun q8 H8 h8 => ?_
    have hsl := sealTo_len l l.length
    have tk : (sealI l).take (99 : Int).toNat = sealI l := List.take_of_length_le (by show (sealTo l l.length).length ≤ 99; omega)
    rw [tk] at h7
    refine ints_spec ((h7.list (enc := Value.int .i64) 1 rfl).ext h8.base) (h8.list (enc := Value.int .i64) 1 rfl) (by show (sealTo l l.length).length < 2 ^ 60; omega) ?_
    rw [decide_eq_true rfl]
    exact hQ H8 (x17.trans h8.base)
theorem take_ok (l : List Use) (sp : Bool) : grabOk l (takeAt l sp) = decide (0 ≤ takeAt l sp) := by
  by_cases h0 : freeN l = 0
  · have : takeAt l sp = -1 := by unfold takeAt; split; rfl; exact first_no h0
    rw [this, grab_neg]; rfl
  · unfold takeAt
    split
    · rw [grab_neg]; rfl
    · rw [grab_first (by omega)]
      obtain ⟨i, u, e, _⟩ := first_ok (l := l) (by omega)
      rw [e]; simp
end
/-- One act. -/
abbrev Act3 := Int × Int × Int
def enc3 (x : Act3) : List Value := [.int .i64 x.1, .int .i64 x.2.1, .int .i64 x.2.2]
theorem addV_ok {c : Cfg} {v : List Int} {at' b : Int} (h : ∀ x, x ∈ v → 0 ≤ x ∧ x ≤ 2147483647) : ∀ x, x ∈ addV c v at' b → 0 ≤ x ∧ x ≤ 2147483647 := by
  intro x hx
  unfold addV at hx
  split at hx
  · rcases List.mem_or_eq_of_mem_set hx with h1 | h1
    · exact h x h1
    · subst h1
      refine addX_le ?_
      unfold getZ
      split
      · cases hg : v[((at' - base c) / c.2.2).toNat]? with
        | none => simp [List.getD, hg]
        | some y => simp [List.getD, hg]; exact (h y (List.mem_of_getElem? hg)).1
      · exact Int.le_refl 0
  · exact h x hx
theorem grabV_ok {l : List Use} {v : List Int} {k : Int} (h : ∀ x, x ∈ v → 0 ≤ x ∧ x ≤ 2147483647) : ∀ x, x ∈ grabV l v k → 0 ≤ x ∧ x ≤ 2147483647 := by
  intro x hx
  unfold grabV at hx
  split at hx
  · rcases List.mem_or_eq_of_mem_set hx with h1 | h1
    · exact h x h1
    · subst h1; decide
  · exact h x hx
theorem addV_len (c : Cfg) (v : List Int) (at' b : Int) : (addV c v at' b).length = v.length := by unfold addV; split <;> simp
theorem sealL_len (l : List Use) (k : Int) : (sealL l k).length = l.length := by unfold sealL; split <;> simp [setS_len]
theorem touchL_len (l : List Use) (k st : Int) : (touchL l k st).length = l.length := by unfold touchL; split <;> simp [setT_len]
end Go.Proofs.Ytmgmjcjpmfdboaa

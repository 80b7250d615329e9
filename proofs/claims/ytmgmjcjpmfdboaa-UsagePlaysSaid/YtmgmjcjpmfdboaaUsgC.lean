/- usage: Sealed; the laws' own functions; awake. -/
import Derived.Test.YtmgmjcjpmfdboaaUsgB
set_option linter.unusedVariables false
set_option linter.unusedSimpArgs false
namespace Go.Proofs.Ytmgmjcjpmfdboaa
open Go Go.Kx

def DoneD (H : PH) (r : Bool) (H' : PH) : Prop := r = true ∧ Ext H H'
theorem ints_spec {H : PH} {s t : Sl} {l m : List Int} {Q : Bool → PH → Prop} (hs : Ints H s l) (ht : Ints H t m) (hl : l.length < 2 ^ 60) (hQ : Q (decide (l = m)) H) : keelsonalike_Ints s t H Q := by
  have e1 := hs.lenI
  have e2 := ht.lenI
  refine mIf_intro (fun h => ?_) (fun h => ?_)
  · have : l ≠ m := fun e => by subst e; simp [e1, e2] at h
    rw [decide_eq_false this] at hQ; exact hQ
  · have hlen : l.length = m.length := by simp at h; omega
    refine mLoop_count l.length (fun k s' Hk => s' = (k : Int) ∧ Hk = H ∧ l.take k = m.take k) ⟨rfl, rfl, rfl⟩ ?_
    rintro k s' H2 again hk ⟨rfl, rfl, htk⟩ hag
    refine mIf_intro (fun hlt => ?_) (fun hge => ?_)
    · have hkl : k < l.length := by simp at hlt; omega
      refine idx_ld hs (by omega) (by omega) fun x hx => idx_ld ht (by omega) (by omega) fun y hy => ?_
      rw [Int.toNat_natCast] at hx hy
      refine mIf_intro (fun hne => ?_) (fun heq => hag hkl _ _ ⟨wrap_succ (by omega), rfl, ?_⟩)
      · have : l ≠ m := fun e => by subst e; rw [hx] at hy; cases hy; simp at hne
        rw [decide_eq_false this] at hQ; exact hQ
      · have : x = y := by simpa using heq
        rw [List.take_add_one, List.take_add_one, hx, hy, htk, this]
    · have : k = l.length := by simp at hge; omega
      subst this
      have : l = m := by rw [List.take_length, hlen, List.take_length] at htk; exact htk
      rw [decide_eq_true this] at hQ; exact hQ

section
variable {H : PH} {L : List Ob} {a : Addr} {p : Option Addr} {s t : Sl} {l : List Use} {v : List Int}
theorem useq_spec {s t : Sl} {l m : List Use} {Q : Bool → PH → Prop} (hs : ListN encU 2 H s l) (ht : ListN encU 2 H t m) (hl : l.length < 2 ^ 60) (hQ : Q (decide (l = m)) H) : keelsonalike_Uses s t H Q := by
  have e1 := hs.lenI
  have e2 := ht.lenI
  refine mIf_intro (fun h => ?_) (fun h => ?_)
  · have : l ≠ m := fun e => by subst e; simp [e1, e2] at h
    rw [decide_eq_false this] at hQ; exact hQ
  · have hlen : l.length = m.length := by simp at h; omega
    refine mLoop_count l.length (fun k s' Hk => s' = (k : Int) ∧ Hk = H ∧ l.take k = m.take k) ⟨rfl, rfl, rfl⟩ ?_
    rintro k s' H2 again hk ⟨rfl, rfl, htk⟩ hag
    refine mIf_intro (fun hlt => ?_) (fun hge => ?_)
    · have hkl : k < l.length := by simp at hlt; omega
      refine idxL hs (by omega) (by omega) fun b x hx hc => ldU hc (idxL ht (by omega) (by omega) fun b2 y hy hc2 => ldU hc2 ?_)
      rw [Int.toNat_natCast] at hx hy
      refine mIf_intro (fun hne => ?_) (fun heq => hag hkl _ _ ⟨wrap_succ (by omega), rfl, ?_⟩)
      · have : l ≠ m := fun e => by subst e; rw [hx] at hy; cases hy; simp [andAll] at hne
        rw [decide_eq_false this] at hQ; exact hQ
      · have : x = y := by
          simp [andAll] at heq
          exact Prod.ext heq.1 heq.2
        rw [List.take_add_one, List.take_add_one, hx, hy, htk, this]
    · have : k = l.length := by simp at hge; omega
      subst this
      have : l = m := by rw [List.take_length, hlen, List.take_length] at htk; exact htk
      rw [decide_eq_true this] at hQ; exact hQ
theorem sealed_c1_spec {γ : Type} {c0 : Addr} {Y : List Value → γ → PH → (Nat → γ → PH → Prop) → Prop} {g0 : γ} {Q : Nat → γ → PH → Prop} (I : Nat → γ → PH → Prop) (hd : l.length < 2 ^ 40)
    (hI : ∀ k g H, I k g H → cellAt H c0 = some (.pointer (some a)) ∧ RowAt H a (tabRow p s t) ∧ ListN encU 2 H s l) (h0 : I 0 g0 H)
    (skip : ∀ k g H, k < l.length → I k g H → ((l.getD k (0, 0)).1 == 2) = false → I (k + 1) g H)
    (step : ∀ k g H K, k < l.length → I k g H → ((l.getD k (0, 0)).1 == 2) = true → (∀ g' H', I (k + 1) g' H' → K 0 g' H') → (∀ j g' H', j ≠ 0 → Q j g' H' → K j g' H') → Y [.int .i64 k] g H K)
    (fin : ∀ g H, I l.length g H → Q 0 g H) : usage_Table_Sealed_c1 c0 Y g0 H Q := by
  obtain ⟨e0, r0, l0⟩ := hI _ _ _ h0
  refine ⟨some a, e0, mIf_neg rfl ⟨some a, e0, nil_some (ld_row (x := s) r0 rfl ?_)⟩⟩
  rw [l0.lenI]
  refine mLoop_count l.length (fun k st Hk => ∃ g, st = ((k : Int), (0, g)) ∧ I k g Hk) ⟨g0, rfl, h0⟩ ?_
  rintro k st H1 again hk ⟨g, rfl, hi⟩ hag
  obtain ⟨e1, r1, l1⟩ := hI _ _ _ hi
  refine mIf_intro (fun c => ?_) (fun c => ?_)
  · have hkl : k < l.length := by simpa using c
    have ew := wrap_succ (k := k) (by omega)
    refine ⟨some a, e1, nil_some (ld_row (x := s) r1 rfl (idxL l1 (by simp) (by simpa using hkl) fun b x hx hc => ld0 hc ?_))⟩
    rw [Int.toNat_natCast] at hx
    have hgd : l.getD k (0, 0) = x := by simp [List.getD, hx]
    rw [← hgd]
    refine mJoin_intro (mIf_intro (fun c1 => ⟨rfl, ?_⟩) (fun c1 => mIf_neg rfl ?_))
    · refine step k g H1 _ hkl hi c1 (fun g' H' hi' => mIf_neg rfl ?_) (fun j g' H' hj hq => mIf_pos (by simpa using hj) hq)
      rw [ew]; exact hag hkl _ _ ⟨g', rfl, hi'⟩
    · rw [ew]; exact hag hkl _ _ ⟨g, rfl, skip k g H1 hkl hi c1⟩
  · have : k = l.length := by simp at c; omega
    subst this
    exact fin g H1 hi
theorem sealed_spec {most : Int} {Q : Sl → PH → Prop} (r : RowAt H a (tabRow p s t)) (hs : ListN encU 2 H s l) (hd : l.length < 2 ^ 30) (hQ : ∀ q H', Stars H' [baseO H, vecO (Value.int .i64) q ((sealI l).take most.toNat)] → Q q H') : keelsonlaw12_sealed (some a) most H Q := by
  refine S_row (Stars.start H) fun a1 H1 h1 x1 => S_row h1 fun c0 H2 h2 x2 => ⟨.inr ⟨_, _, _, rfl⟩, mIf_neg rfl (S_row h2 fun a8 H3 h3 x3 => mJoin_intro ?_)⟩
  have h4 := h3.nilv (enc := Value.int .i64)
  have last : ∀ (q : Sl) (l : List Int) (H' : PH), l = (sealI ‹List Use›).take most.toNat → Stars H' [baseO H, rowO a1 [.int .i64 most], rowO c0 [.pointer (some a)], rowO a8 [Sl.v q], vecO (Value.int .i64) q l] → mLd Sl.v H' a8 fun x15 => Q x15 H' := fun q l H' hl h' => by
    subst hl
    exact S_ld1 h' 3 rfl (hQ q H' (h'.pick [0, 4] (by decide) rfl (by simp)))
  refine usage_Table_Sealed_c1_s _ _ _ _ _ (sealed_c1_spec (a := a) (p := p) (s := s) (t := t) (l := l)
    (fun k _ Hk => ∃ q, (sealTo l k).length ≤ most.toNat ∧ Stars Hk [baseO H, rowO a1 [.int .i64 most], rowO c0 [.pointer (some a)], rowO a8 [Sl.v q], vecO (Value.int .i64) q (sealTo l k)]) (by omega)
    ?_ ⟨Sl.nil, by simp [sealTo], h4⟩ ?_ ?_ ?_)
  · rintro k _ Hk ⟨q, _, hk⟩
    exact ⟨hk.cell1 2 rfl, r.ext hk.base, hs.ext hk.base⟩
  · rintro k _ Hk hkl ⟨q, hb, hk⟩ hf
    exact ⟨q, by rw [sealTo_none hf]; exact hb, by rw [sealTo_none hf]; exact hk⟩
  · rintro k _ Hk K hkl ⟨q, hb, hk⟩ hf hnext hbrk
    have hl1 := (hk.list (enc := Value.int .i64) 4 rfl).lenI
    have hlen := sealTo_len l k
    refine ⟨_, rfl, S_ld1 hk 3 rfl (S_ld1 hk 1 rfl (mIf_intro (fun c => ?_) (fun c => ?_)))⟩
    · have c' : most ≤ (q.len : Int) := by simpa using c
      have e : sealTo l k = (sealI l).take most.toNat := by
        obtain ⟨r, hr⟩ := sealTo_pre l k (l.length - k)
        rw [show k + (l.length - k) = l.length by omega] at hr
        rw [sealI, hr, List.take_append_of_le_length (by omega), List.take_of_length_le (by omega)]
      exact hbrk 1 () Hk (by decide) (mIf_pos rfl (last q _ Hk e hk))
    · have c' : ¬ most ≤ (q.len : Int) := by simpa using c
      refine S_ld1 hk 3 rfl (S_new1 (enc := Value.int .i64) hk fun q1 H6 h6 x6 => S_app (ys := [(k : Int)]) h6 4 rfl (h6.list 5 rfl) cvI rfl (by simp; omega) fun r3 H7 h7 => S_st1 h7 3 rfl rfl fun H8 h8 => ?_)
      refine hnext () H8 ⟨r3, ?_, ?_⟩
      · rw [sealTo_some hf, List.length_append, List.length_singleton]; omega
      · rw [sealTo_some hf]
        exact h8.pick [0, 1, 2, 3, 4] (by decide) rfl (by simp)
  · rintro _ Hk ⟨q, hb, hk⟩
    refine mIf_neg rfl (last q _ Hk ?_ hk)
    rw [sealI, List.take_of_length_le hb]
theorem new_yes2 {c : Cfg} {Q : Option Addr → Int → PH → Prop} (hc : CfgOk c) (hQ : ∀ g H', Ext H H' → RowAt H' g (cfgL c) → H g.block = none → Q (some g) 0 H') : geom_New c H Q := by
  obtain ⟨h1, h2, h3, h4, h5, h6⟩ := hc
  have w : ∀ {x lo hi : Int}, lo ≤ x → x ≤ hi → (decide (lo ≤ x) && decide (x ≤ hi)) = true := fun h h' => by simp [h, h']
  refine new_row fun a1 H1 x1 r1 _ => ld_row (x := c.1) r1 rfl (within_spec ?_)
  rw [w h1 h2]
  refine mJoin_intro (mIf_neg rfl (ld_row (x := c.2.1) r1 rfl (within_spec ?_)))
  rw [w h3 h4]
  refine mJoin_intro (mIf_neg rfl (ld_row (x := c.2.2) r1 rfl (within_spec ?_)))
  rw [w h5 h6]
  refine mIf_neg rfl (ldr_row (x := c) r1 rfl (new_row fun a2 H2 x2 r2 f2 => hQ _ _ (x1.trans x2) r2 (x1.none f2)))
theorem eight_spec {Q : Option Addr → (Int × Int × Int) → Bool → PH → Prop} (hQ : ∀ g H', Ext H H' → Gm H' (some g) (4, 8, 24) → Q (some g) (4, 8, 24) true H') : keelsonlaw12_eight H Q := by
  refine new_row fun a1 H1 x1 r1 f1 => new_row fun a2 H2 x2 r2 f2 => st_row (vs := [.int .i64 4, .int .i64 8, .int .i64 24]) r2 rfl rfl fun H3 r3 k3 => ldr_row (x := ((4 : Int), (8 : Int), (24 : Int))) r3 rfl ?_
  have x3 : Ext H1 H3 := x2.keepB k3 f2
  refine new_yes2 (by simp [CfgOk]) fun g H4 x4 hr fg => ?_
  refine ldr_row (x := ((4 : Int), (8 : Int), (24 : Int))) (r3.ext x4) rfl (mJoin_intro (mIf_pos rfl ?_))
  have x14 := x3.trans x4
  refine st_row (vs := [.int .i64 4, .int .i64 8, .int .i64 24]) (r1.ext x14) rfl rfl fun H5 r5 k5 => ldr_row (x := ((4 : Int), (8 : Int), (24 : Int))) r5 rfl ?_
  have hne : g.block ≠ a1.block := by
    intro e
    obtain ⟨o, ho⟩ := (r1.ext x3).2.2
    rw [e] at fg
    rw [ho] at fg; cases fg
  exact hQ g H5 ((x1.trans x14).keepB k5 f1) ⟨g, rfl, hr.agree fun c o hc ho => k5 c o ho (by rw [hc]; exact hne)⟩
theorem tnew_froz {H B : PH} {L : List Ob} {p : Option Addr} {c : Cfg} {x : Sl} {ul : List Use} {Q : Option Addr → PH → Prop} (h : Stars H (baseO B :: L)) (hg : Gm H p c) (hc : CfgOk c) (hx : ListN encU 2 H x ul) (h1 : ul = [] ∨ (ul.length : Int) = c.2.1) (h2 : ∀ u, u ∈ ul → okU u = true)
    (hQ : ∀ B' a s t H', Ext B B' → RowAt B' a (tabRow p s t) → Stars H' (baseO B' :: (L ++ [vecNO encU 2 s (iniL c.2.1.toNat ul), vecO (Value.int .i64) t (List.replicate c.2.1.toNat 0)])) → Q (some a) H') : usage_New p x H Q := by
  have hul : ul.length < 2 ^ 40 := by
    have := hc.2.2.2.1
    rcases h1 with h | h
    · subst h; decide
    · omega
  refine tnew_spec hg hc hx hul (fun hb => absurd ⟨h1, h2⟩ hb) fun _ _ a s t H1 k1 => ?_
  have k2 := h.over k1
  have k3 : Stars H1 (baseO B :: (L ++ [vecNO encU 2 s (iniL c.2.1.toNat ul), vecO (Value.int .i64) t (List.replicate c.2.1.toNat 0)]) ++ [rowO a (tabRow p s t)]) := by simpa using k2
  obtain ⟨B', xb, rb, k4⟩ := k3.freeze
  exact hQ B' a s t H1 xb rb k4
def awL (k : Nat) : List Use := List.replicate (min k 6) (1, 0) ++ List.replicate (8 - min k 6) (0, 0)
theorem aw_take : ∀ k, k < 8 → takeAt (awL k) false = (if k < 6 then (k : Int) else -1) ∧ grabL (awL k) (takeAt (awL k) false) = awL (k + 1) ∧ grabV (awL k) (List.replicate 8 0) (takeAt (awL k) false) = List.replicate 8 0 ∧ grabOk (awL k) (takeAt (awL k) false) = decide (k < 6) := by decide
theorem awake_spec {H : PH} {Q : Bool → PH → Prop} (hQ : ∀ H', Ext H H' → Q true H') : keelsonlaw12_awake H Q := by
  refine eight_spec fun g H1 x1 hg => ?_
  refine S_row (Stars.start H1) fun a5 H2 h2 x2 => ?_
  have ok : CfgOk (4, 8, 24) := by simp [CfgOk]
  refine st_row (vs := [.int .i64 4, .int .i64 8, .int .i64 24]) (h2.get 1 rfl) rfl rfl fun H3 r3 k3 => ?_
  have x3 : Ext H1 H3 := x2.keepB k3 (by
    have := h2.fresh (O := rowO a5 [.int .i64 0, .int .i64 0, .int .i64 0]) 0 rfl a5.block rfl
    exact this)
  have hg3 := hg.ext x3
  refine tnew_froz (Stars.start H3) hg3 ok (ul := []) ⟨rfl, Nat.le_refl _, fun i x hi => by simp at hi⟩ (.inl rfl) (fun u hu => by simp at hu) fun B a s t H4 xB r h4 => ?_
  have h4' : Stars H4 [baseO B, vecNO encU 2 s (awL 0), vecO (Value.int .i64) t (List.replicate 8 0)] := h4
  have rx : ∀ {H' L}, Stars H' (baseO B :: L) → RowAt H' a (tabRow (some g) s t) := fun h => r.ext h.base
  have gx : ∀ {H' L}, Stars H' (baseO B :: L) → Gm H' (some g) (4, 8, 24) := fun h => hg3.ext (xB.trans h.base)
  refine mJoin_intro (mIf_neg rfl (mJoin_intro (mIf_neg rfl (tnew_none fun H5 x5 => mIf_neg rfl ?_))))
  have h5 := h4'.ext x5
  refine mLoop_count 8 (fun k st Hk => st = (((min k 6 : Nat) : Int), (k : Int)) ∧ Stars Hk [baseO B, vecNO encU 2 s (awL k), vecO (Value.int .i64) t (List.replicate 8 0)]) ⟨rfl, h5⟩ ?_
  rintro k st H6 again hk ⟨rfl, h6⟩ hag
  refine mIf_intro (fun c => ?_) (fun c => ?_)
  · have hk8 : k < 8 := by simp at c; omega
    obtain ⟨t1, t2, t3, t4⟩ := aw_take k hk8
    have hl8 : (awL k).length = 8 := by simp [awL]; omega
    refine mJoin_intro (take_spec h6 (rx h6) 1 2 rfl rfl (by decide) (by rw [hl8]; rfl) (by rw [hl8]; decide) fun H7 h7 => ?_)
    rw [t2, t3] at h7
    rw [t4, t1]
    simp only []
    rw [wrap_succ (k := k) (by omega)]
    refine mJoin_intro ?_
    by_cases h : k < 6
    · rw [decide_eq_true h, if_pos h, if_pos rfl]
      have e : ((k : Int) == ((min k 6 : Nat) : Int)) = true := by simp; omega
      refine mIf_pos rfl ?_
      rw [e]
      refine mIf_pos rfl (hag hk8 _ _ ⟨?_, h7⟩)
      rw [wrap64_id (by omega) (by omega)]
      have : ((min k 6 : Nat) : Int) + 1 = ((min (k + 1) 6 : Nat) : Int) := by omega
      rw [this]
    · rw [decide_eq_false h]
      refine mIf_neg rfl (mIf_neg rfl (hag hk8 _ _ ⟨?_, h7⟩))
      have : min k 6 = min (k + 1) 6 := by omega
      rw [this]
  have hk8 : k = 8 := by simp at c; omega
  subst hk8
  have h6' : Stars H6 [baseO B, vecNO encU 2 s [(1, 0), (1, 0), (1, 0), (1, 0), (1, 0), (1, 0), (0, 0), (0, 0)], vecO (Value.int .i64) t [0, 0, 0, 0, 0, 0, 0, 0]] := h6
  refine take_spec h6' (rx h6') 1 2 rfl rfl (by decide) rfl (by decide) fun H7 h7 => ?_
  have h7' : Stars H7 [baseO B, vecNO encU 2 s [(1, 0), (1, 0), (1, 0), (1, 0), (1, 0), (1, 0), (1, 0), (0, 0)], vecO (Value.int .i64) t [0, 0, 0, 0, 0, 0, 0, 0]] := h7
  refine seal_spec h7' (rx h7') 1 rfl fun H8 h8 => ?_
  have h8' : Stars H8 [baseO B, vecNO encU 2 s [(2, 0), (1, 0), (1, 0), (1, 0), (1, 0), (1, 0), (1, 0), (0, 0)], vecO (Value.int .i64) t [0, 0, 0, 0, 0, 0, 0, 0]] := h8
  have hs8 : VecN encU 2 H8 s _ := h8'.get 1 rfl
  refine sealed_spec (rx h8') (hs8.listN lenU) (by decide) fun q9 H9 h9 => ?_
  have h9' := h8'.over h9
  refine S_new1 (enc := Value.int .i64) h9' fun q10 H10 h10 x10 => ints_spec (h10.list 3 rfl) (h10.list 4 rfl) (by decide) ?_
  have eb : base (4, 8, 24) = 10 := by decide
  refine seg_spec (gx h10) ok fun H11 x11 => ?_
  rw [if_pos (by decide)]
  have h11 := (h10.ext x11).pick [0, 1, 2] (L' := [baseO B, vecNO encU 2 s [(2, 0), (1, 0), (1, 0), (1, 0), (1, 0), (1, 0), (1, 0), (0, 0)], vecO (Value.int .i64) t [0, 0, 0, 0, 0, 0, 0, 0]]) (by decide) rfl (by simp)
  refine tadd_spec h11 (rx h11) (gx h11) ok 2 rfl rfl (by decide) (by decide) fun H12 h12 => ?_
  have h12' : Stars H12 [baseO B, vecNO encU 2 s [(2, 0), (1, 0), (1, 0), (1, 0), (1, 0), (1, 0), (1, 0), (0, 0)], vecO (Value.int .i64) t [1, 0, 0, 0, 0, 0, 0, 0]] := h12
  refine release_spec h12' r 0 1 rfl rfl (by decide) rfl (by decide) fun q13 H13 h13 => ?_
  have h13' : Stars H13 [baseO B, vecNO encU 2 s [(2, 0), (1, 0), (1, 0), (1, 0), (1, 0), (1, 0), (1, 0), (0, 0)], vecO (Value.int .i64) t [1, 0, 0, 0, 0, 0, 0, 0], vecO (Value.int .i64) q13 []] := h13
  refine seg_spec (gx h13') ok fun H14 x14 => ?_
  rw [if_pos (by decide)]
  have h14 := h13'.ext x14
  refine tadd_spec h14 (rx h14) (gx h14) ok 2 rfl rfl (by decide) (by decide) fun H15 h15 => ?_
  have h15' : Stars H15 [baseO B, vecNO encU 2 s [(2, 0), (1, 0), (1, 0), (1, 0), (1, 0), (1, 0), (1, 0), (0, 0)], vecO (Value.int .i64) t [0, 0, 0, 0, 0, 0, 0, 0], vecO (Value.int .i64) q13 []] := h15
  refine release_spec h15' r 0 1 rfl rfl (by decide) rfl (by decide) fun q16 H16 h16 => ?_
  have h16' : Stars H16 [baseO B, vecNO encU 2 s [(0, 0), (1, 0), (1, 0), (1, 0), (1, 0), (1, 0), (1, 0), (0, 0)], vecO (Value.int .i64) t [0, 0, 0, 0, 0, 0, 0, 0], vecO (Value.int .i64) q13 [], vecO (Value.int .i64) q16 [0]] := h16
  have l13 := (h16'.list (enc := Value.int .i64) 3 rfl).lenI
  have l16 := (h16'.list (enc := Value.int .i64) 4 rfl).lenI
  have hs16 : VecN encU 2 H16 s _ := h16'.get 1 rfl
  refine mJoin_intro (mIf_pos rfl (mJoin_intro (mIf_pos (by decide) (mJoin_intro (mIf_pos (by decide) (mJoin_intro (mIf_pos (by decide) (mJoin_intro (mIf_pos (by decide) ?_)))))))))
  refine mJoin_intro (mIf_pos (by rw [l13]; rfl) (mJoin_intro (mIf_pos (by rw [l16]; rfl) ?_)))
  refine idx_ld (h16'.list (enc := Value.int .i64) 4 rfl) (by decide) (by decide) fun x hx => ?_
  cases hx
  refine mJoin_intro (mIf_pos rfl (free_spec (rx h16') (hs16.listN lenU) (by decide) fun H17 x17 => ?_))
  refine mJoin_intro (mIf_pos (by decide) (mIf_pos rfl ?_))
  exact hQ H17 (((x1.trans x3).trans (xB.trans h16'.base)).trans x17)
end
end Go.Proofs.Ytmgmjcjpmfdboaa

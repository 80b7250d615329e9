/- window: All, Len; the laws' own functions. -/
import Derived.Test.YtegnpplffhkjhaaWinA
set_option linter.unusedVariables false
set_option linter.unusedSimpArgs false
namespace Go.Proofs.Ytegnpplffhkjhaa
open Go Go.Kx

def itemsTo (W : Win) (k : Nat) : List (Int × Int) := (List.range k).filterMap fun (i : Nat) => (W.f (W.next + i)).map fun v => (W.next + i, v)
def items (W : Win) : List (Int × Int) := itemsTo W W.size
theorem itemsTo_none {W : Win} {k : Nat} (h : W.f (W.next + k) = none) : itemsTo W (k + 1) = itemsTo W k := by simp [itemsTo, List.range_succ, h]
theorem itemsTo_some {W : Win} {k : Nat} {v : Int} (h : W.f (W.next + k) = some v) : itemsTo W (k + 1) = itemsTo W k ++ [(W.next + k, v)] := by simp [itemsTo, List.range_succ, h]
theorem itemsTo_len (W : Win) : ∀ k, (itemsTo W k).length ≤ k
  | 0 => by simp [itemsTo]
  | k + 1 => by
    have := itemsTo_len W k
    cases h : W.f (W.next + k) with
    | none => rw [itemsTo_none h]; omega
    | some v => rw [itemsTo_some h, List.length_append, List.length_singleton]; omega
theorem itemsTo_pre (W : Win) (k : Nat) : ∀ d, ∃ r, itemsTo W (k + d) = itemsTo W k ++ r
  | 0 => ⟨[], by simp⟩
  | d + 1 => by
    obtain ⟨r, hr⟩ := itemsTo_pre W k d
    cases h : W.f (W.next + (k + d : Nat)) with
    | none => exact ⟨r, by rw [← Nat.add_assoc, itemsTo_none h, hr]⟩
    | some v => exact ⟨r ++ [_], by rw [← Nat.add_assoc, itemsTo_some h, hr, List.append_assoc]⟩
theorem wrap_succ {k : Nat} (h : k < 2 ^ 60) : IntKind.wrap .i64 ((k : Int) + 1) = ((k + 1 : Nat) : Int) := by rw [wrap64_id (by omega) (by omega)]; push_cast; rfl

theorem all_c1_spec {γ : Type} {c0 : Addr} {Y : List Value → γ → PH → (Nat → γ → PH → Prop) → Prop} {g0 : γ} {H : PH} {Q : Nat → γ → PH → Prop} {a : Addr} {s : Sl} {W : Win} (I : Nat → γ → PH → Prop)
    (hI : ∀ k g H, I k g H → cellAt H c0 = some (.pointer (some a)) ∧ WinAt H a s W) (h0 : I 0 g0 H)
    (skip : ∀ k g H, k < W.size → I k g H → W.f (W.next + k) = none → I (k + 1) g H)
    (step : ∀ k g H K v, k < W.size → I k g H → W.f (W.next + k) = some v → (∀ g' H', I (k + 1) g' H' → K 0 g' H') → (∀ j g' H', j ≠ 0 → Q j g' H' → K j g' H') → Y [.int .i64 (W.next + k), .int .i64 v] g H K)
    (fin : ∀ g H, I W.size g H → Q 0 g H) : window_Window_int_All_c1 c0 Y g0 H Q := by
  obtain ⟨e0, w0⟩ := hI _ _ _ h0
  refine ⟨some a, e0, none_spec w0 (mIf_neg rfl ⟨some a, e0, nil_some (ld_row (x := W.next) w0.row rfl ?_)⟩)⟩
  refine mLoop_count W.size (fun k st Hk => ∃ g, st = (W.next + k, (0, g)) ∧ I k g Hk) ⟨g0, by simp, h0⟩ ?_
  rintro k st H1 again hk ⟨g, rfl, hi⟩ hag
  obtain ⟨e1, w1⟩ := hI _ _ _ hi
  obtain ⟨l, hv, hl, hh⟩ := w1.vec
  have := w1.ok.n1; have := w1.ok.n2; have := w1.ok.le
  refine ⟨some a, e1, nil_some (ld_row (x := W.next) w1.row rfl ⟨some a, e1, nil_some (ld_row (x := s) w1.row rfl ?_)⟩)⟩
  rw [hv.lenI, hl, wrap64_id (by omega) (by omega)]
  refine mIf_intro (fun c => ?_) (fun c => ?_)
  · have hkl : k < W.size := by simp at c; omega
    have ew : IntKind.wrap .i64 (W.next + k + 1) = W.next + ((k + 1 : Nat) : Int) := by rw [wrap64_id (by omega) (by omega)]; push_cast; omega
    refine ⟨some a, e1, at_spec w1 (by omega) (by omega) fun l2 a2 hh2 el => nil_some ⟨_, el.cell lenS rfl, mJoin_intro (mIf_intro (fun c1 => ?_) (fun c1 => ?_))⟩⟩
    · have e1' : mLd (.int .i64) H1 (a2.add 0) fun x45 => mYield Y (0, g) [.int .i64 (W.next + k), .int .i64 x45] H1 fun q47 H48 => mIf (!(q47.1 == 0)) (Q q47.1 q47.2 H48) (again (IntKind.wrap .i64 (W.next + k + 1), q47) H48) := by
        refine ⟨_, el.cell lenS rfl, rfl, ?_⟩
        cases hf : W.f (W.next + k) with
        | none => rw [hf] at c1; cases c1
        | some v =>
          refine step k g H1 _ v hkl hi hf (fun g' H' hi' => mIf_neg rfl ?_) (fun j g' H' hj hq => mIf_pos (by simpa using hj) hq)
          rw [ew]; exact hag hkl _ _ ⟨g', rfl, hi'⟩
      exact nil_some e1'
    · have hf : W.f (W.next + k) = none := by
        cases hf : W.f (W.next + k) with
        | none => rfl
        | some v => rw [hf] at c1; cases c1
      refine mIf_neg rfl ?_
      rw [ew]; exact hag hkl _ _ ⟨g, rfl, skip k g H1 hkl hi hf⟩
  · have : k = W.size := by simp at c; omega
    subst this
    exact fin g H1 hi

theorem ints_enc (x : Int) : cellV (Value.int .i64 x) = true := rfl
theorem all_spec {H : PH} {a : Addr} {s : Sl} {W : Win} {most : Int} {Q : Sl → Sl → PH → Prop} (w : WinAt H a s W)
    (hQ : ∀ r1 r2 H', Stars H' [baseO H, vecO (Value.int .i64) r1 (((items W).take most.toNat).map (·.1)), vecO (Value.int .i64) r2 (((items W).take most.toNat).map (·.2))] → Q r1 r2 H') : keelsonlaw23_all (some a) most H Q := by
  refine S_row (Stars.start H) fun a1 H1 h1 x1 => S_row h1 fun c0 H2 h2 x2 => ⟨.inr ⟨_, _, _, rfl⟩, mIf_neg rfl (S_row h2 fun a8 H3 h3 x3 => S_row h3 fun a11 H4 h4 x4 => mJoin_intro ?_)⟩
  have h5 := (h4.nilv (enc := Value.int .i64)).nilv (enc := Value.int .i64)
  have hle := w.ok.le
  let l (k : Nat) := itemsTo W k
  have last : ∀ (r1 r2 : Sl) (L : List (Int × Int)) (H' : PH), L = (items W).take most.toNat → Stars H' [baseO H, rowO a1 [.int .i64 most], rowO c0 [.pointer (some a)], rowO a8 [Sl.v r1], rowO a11 [Sl.v r2], vecO (Value.int .i64) r1 (L.map (·.1)), vecO (Value.int .i64) r2 (L.map (·.2))] →
      mLd Sl.v H' a8 fun x18 => mLd Sl.v H' a11 fun x20 => Q x18 x20 H' := fun r1 r2 L H' hL h' => by
    subst hL
    exact S_ld1 h' 3 rfl (S_ld1 h' 4 rfl (hQ r1 r2 H' (h'.pick [0, 5, 6] (by decide) rfl (by simp))))
  refine window_Window_int_All_c1_s _ _ _ _ _ (all_c1_spec (W := W) (a := a) (s := s)
    (fun k _ Hk => ∃ r1 r2, (itemsTo W k).length ≤ most.toNat ∧ Stars Hk [baseO H, rowO a1 [.int .i64 most], rowO c0 [.pointer (some a)], rowO a8 [Sl.v r1], rowO a11 [Sl.v r2], vecO (Value.int .i64) r1 ((itemsTo W k).map (·.1)), vecO (Value.int .i64) r2 ((itemsTo W k).map (·.2))])
    ?_ ⟨Sl.nil, Sl.nil, by simp [itemsTo], h5⟩ ?_ ?_ ?_)
  · rintro k _ Hk ⟨r1, r2, _, hk⟩
    exact ⟨hk.cell1 2 rfl, w.agree fun c o _ ho => hk.base c o ho⟩
  · rintro k _ Hk hkl ⟨r1, r2, hb, hk⟩ hf
    exact ⟨r1, r2, by rw [itemsTo_none hf]; exact hb, by rw [itemsTo_none hf]; exact hk⟩
  · rintro k _ Hk K v hkl ⟨r1, r2, hb, hk⟩ hf hnext hbrk
    have hl1 := (hk.list 5 rfl).lenI
    rw [List.length_map] at hl1
    have hlen := itemsTo_len W k
    refine ⟨_, _, rfl, S_ld1 hk 3 rfl (S_ld1 hk 1 rfl (mIf_intro (fun c => ?_) (fun c => ?_)))⟩
    · have c' : most ≤ (r1.len : Int) := by simpa using c
      have e : itemsTo W k = (items W).take most.toNat := by
        obtain ⟨r, hr⟩ := itemsTo_pre W k (W.size - k)
        rw [show k + (W.size - k) = W.size by omega] at hr
        rw [items, hr, List.take_append_of_le_length (by omega), List.take_of_length_le (by omega)]
      refine hbrk 1 () Hk (by decide) (mIf_pos rfl (last r1 r2 _ Hk e hk))
    · have c' : ¬ most ≤ (r1.len : Int) := by simpa using c
      refine S_ld1 hk 3 rfl (S_ld1 hk 4 rfl (S_new1 (enc := Value.int .i64) hk fun q1 H6 h6 x6 => ?_))
      refine ⟨h6.cell1 4 rfl, h6.cell1 3 rfl, S_app (ys := [W.next + k]) h6 5 rfl (h6.list 7 rfl) ints_enc rfl ?_ fun r3 H7 h7 => ⟨h7.cell1 4 rfl, S_new1 (enc := Value.int .i64) h7 fun q2 H8 h8 x8 => ⟨h8.cell1 4 rfl, S_app (ys := [v]) h8 6 rfl (h8.list 8 rfl) ints_enc rfl ?_ fun r4 H9 h9 => S_st1 h9 3 rfl rfl fun H10 h10 => S_st1 h10 4 rfl rfl fun H11 h11 => ?_⟩⟩⟩
      · simp; omega
      · simp; omega
      · refine hnext () H11 ⟨r3, r4, ?_, ?_⟩
        · rw [itemsTo_some hf, List.length_append, List.length_singleton]; omega
        · rw [itemsTo_some hf, List.map_append, List.map_append]
          exact h11.pick [0, 1, 2, 3, 4, 5, 6] (by decide) rfl (by simp)
  · rintro _ Hk ⟨r1, r2, hb, hk⟩
    refine mIf_neg rfl (last r1 r2 _ Hk ?_ hk)
    rw [items, List.take_of_length_le hb]
theorem len_spec {H : PH} {a : Addr} {s : Sl} {W : Win} {Q : Int → PH → Prop} (w : WinAt H a s W) (hQ : ∀ H', Ext H H' → Q (items W).length H') : window_Window_int_Len (some a) H Q := by
  have hle := w.ok.le
  refine S_row (Stars.start H) fun a1 H1 h1 x1 => S_row h1 fun c0 H2 h2 x2 => ?_
  refine window_Window_int_All_c1_s _ _ _ _ _ (all_c1_spec (W := W) (a := a) (s := s)
    (fun k _ Hk => Stars Hk [baseO H, rowO a1 [.int .i64 (itemsTo W k).length], rowO c0 [.pointer (some a)]]) ?_ h2 ?_ ?_ ?_)
  · exact fun k _ Hk hk => ⟨hk.cell1 2 rfl, w.agree fun c o _ ho => hk.base c o ho⟩
  · intro k _ Hk hkl hk hf
    rw [itemsTo_none hf]; exact hk
  · intro k _ Hk K v hkl hk hf hnext _
    have hlen := itemsTo_len W k
    refine ⟨_, _, rfl, S_ld1 hk 1 rfl (S_st1 hk 1 rfl rfl fun H3 h3 => hnext () H3 ?_)⟩
    rw [itemsTo_some hf, List.length_append, List.length_singleton]
    rw [wrap_succ (by omega)] at h3
    exact h3
  · intro _ Hk hk
    exact S_ld1 hk 1 rfl (S_st1 hk 1 rfl rfl fun H3 h3 => S_ld1 h3 1 rfl (hQ H3 h3.base))
theorem len_none {H : PH} {Q : Int → PH → Prop} (hQ : ∀ H', Ext H H' → Q 0 H') : window_Window_int_Len none H Q := by
  refine S_row (Stars.start H) fun a1 H1 h1 x1 => S_row h1 fun c0 H2 h2 x2 => ?_
  refine window_Window_int_All_c1_s _ _ _ _ _ ⟨none, h2.cell1 2 rfl, mJoin_intro (mIf_pos rfl (mIf_pos rfl ?_))⟩
  exact S_ld1 h2 1 rfl (S_st1 h2 1 rfl rfl fun H3 h3 => S_ld1 h3 1 rfl (hQ H3 h3.base))
theorem put_none {H : PH} {n v : Int} {Q : Int → PH → Prop} (hQ : Q 10 H) : window_Window_int_Put none n v H Q := mJoin_intro (mIf_pos rfl (mIf_pos rfl hQ))

/-! ### The laws' own functions -/
theorem ints_spec {H : PH} {s t : Sl} {l m : List Int} {Q : Bool → PH → Prop} (hs : Ints H s l) (ht : Ints H t m) (hl : l.length < 2 ^ 60) (hQ : Q (decide (l = m)) H) : keelsonalike_Ints s t H Q := by
  have e1 := hs.lenI
  have e2 := ht.lenI
  refine mIf_intro (fun h => ?_) (fun h => ?_)
  · have : l ≠ m := fun e => by subst e; simp [e1, e2] at h
    rw [decide_eq_false this] at hQ; exact hQ
  · have hlen : l.length = m.length := by simp at h; omega
    refine mLoop_count l.length (fun k s' Hk => s' = (k : Int) ∧ Hk = H ∧ l.take k = m.take k) ⟨rfl, rfl, rfl⟩ ?_
    rintro k s' H2 again hk ⟨rfl, rfl, htk⟩ hag
    refine mIf_intro (fun hlt => ?_) (fun hge => ?_)
    · have hkl : k < l.length := by simp at hlt; omega
      refine idx_ld hs (by omega) (by omega) fun x hx => idx_ld ht (by omega) (by omega) fun y hy => ?_
      rw [Int.toNat_natCast] at hx hy
      refine mIf_intro (fun hne => ?_) (fun heq => hag hkl _ _ ⟨wrap_succ (by omega), rfl, ?_⟩)
      · have : l ≠ m := fun e => by subst e; rw [hx] at hy; cases hy; simp at hne
        rw [decide_eq_false this] at hQ; exact hQ
      · have : x = y := by simpa using heq
        rw [List.take_add_one, List.take_add_one, hx, hy, htk, this]
    · have : k = l.length := by simp at hge; omega
      subst this
      have : l = m := by rw [List.take_length, hlen, List.take_length] at htk; exact htk
      rw [decide_eq_true this] at hQ; exact hQ
theorem mod_spec {H : PH} {x m : Int} {Q : Int → PH → Prop} (hm : 0 < m) (hm2 : m < 2 ^ 62) (hQ : Q (x % m) H) : keelsonref1_Mod x m H Q := by
  have h3 := Int.tmod_eq_emod (a := x) (b := m)
  have h4 := Int.emod_nonneg x (by omega : m ≠ 0)
  have h5 := Int.emod_lt_of_pos x hm
  refine ⟨by omega, mJoin_intro (mIf_intro (fun hc => ?_) (fun hc => ?_))⟩
  · have h1 : x.tmod m < 0 := by simpa using hc
    have h2 := Int.lt_tmod_of_pos x hm
    have e : x.tmod m + m = x % m := by split at h3 <;> omega
    rw [wrap64_id (by omega) (by omega), e]; exact hQ
  · have h1 : ¬ x.tmod m < 0 := by simpa using hc
    have e : x.tmod m = x % m := by split at h3 <;> omega
    rw [e]; exact hQ
theorem round_spec {H : PH} {x m : Int} {Q : Int → PH → Prop} (hm : 0 < m) (hm2 : m < 2 ^ 62) (hQ : Q (x % m) H) : keelsonalike_Round x m H Q := mod_spec hm hm2 hQ

def aw0 : Win := newWin 4 7
def aw1 : Win := (((aw0.put 11 1).put 10 2).put 7 3).put 7 4
theorem awake_spec {H : PH} {Q : Bool → PH → Prop} (hQ : ∀ H', Ext H H' → Q true H') : keelsonlaw23_awake H Q := by
  refine new_spec (fun h => absurd ⟨by decide, by decide, by decide, by decide⟩ h) fun _ a s H1 h1 => ?_
  have hn : ∀ (n m : Int) (K : Option Addr → PH → Prop), ¬ (1 ≤ n ∧ n ≤ 16 ∧ 1 ≤ m ∧ m ≤ 2147483647) → K none H1 → window_New_int n m H1 K := fun n m K hb hk => new_spec (fun _ => hk) fun hg => absurd hg hb
  refine mJoin_intro (mIf_neg rfl (hn 0 1 _ (by decide) (mJoin_intro (mIf_neg rfl (hn 17 1 _ (by decide) (mJoin_intro (mIf_neg rfl (hn 4 0 _ (by decide) (mIf_neg rfl ?_)))))))))
  refine put_spec (n := 11) (v := 1) h1 (i := 1) rfl fun H2 h2 => put_spec (n := 10) (v := 2) h2 (i := 1) rfl fun H3 h3 => put_spec (n := 7) (v := 3) h3 (i := 1) rfl fun H4 h4 => put_spec (n := 7) (v := 4) h4 (i := 1) rfl fun H5 h5 => ?_
  refine pop_spec h5 (i := 1) rfl (by decide) fun H6 h6 => pop_spec h6 (i := 1) rfl (by decide) fun H7 h7 => ?_
  refine all_spec (h7.get 1 rfl) fun r1 r2 H8 h8 => ?_
  have h9 := h7.over h8
  refine mJoin_intro (mIf_pos (by decide) ?_)
  refine mJoin_intro (mIf_pos (by decide) ?_)
  refine mJoin_intro (mIf_pos (by decide) ?_)
  refine mJoin_intro (mIf_pos (by decide) ?_)
  refine mJoin_intro (mIf_pos (by decide) ?_)
  refine mJoin_intro (mIf_pos (by decide) ?_)
  refine mJoin_intro (mIf_pos (by decide) (next_spec (h9.get 1 rfl) ?_))
  refine mJoin_intro (mIf_pos (by decide) ?_)
  refine S_new1 (enc := Value.int .i64) h9 fun q1 H10 h10 x10 => ints_spec (h10.list 2 rfl) (h10.list 4 rfl) (by decide) ?_
  refine mJoin_intro (mIf_pos (by decide) ?_)
  refine S_new1 (enc := Value.int .i64) h10 fun q2 H11 h11 x11 => ints_spec (h11.list 3 rfl) (h11.list 5 rfl) (by decide) ?_
  refine mJoin_intro (mIf_pos (by decide) ?_)
  refine len_none fun H12 x12 => ?_
  refine mJoin_intro (mIf_pos rfl (put_none ?_))
  exact hQ H12 (h11.base.trans x12)
end Go.Proofs.Ytegnpplffhkjhaa

/- ideal: Do, Read, Look, Forget, New; what stays so. -/
import Derived.Test.YtfjpapddfdhhlaaIdlB
set_option linter.unusedVariables false
set_option linter.unusedSimpArgs false
namespace Go.Proofs.Ytfjpapddfdhhlaa
open Go Go.Kx
theorem may_cases {n : Nat} {ep k b c e : Int} {dl : Nat} (h : mayS n ep k b c e dl = true) :
    ((k = 1 ∨ k = 5) ∧ 0 ≤ b ∧ b < n ∧ c = 0 ∧ e = 0 ∧ dl = 64) ∨ ((k = 2 ∨ k = 6) ∧ 1 ≤ c ∧ 0 ≤ b ∧ b + c ≤ n ∧ e = 0 ∧ dl = 0) ∨ (k = 3 ∧ e = ep + 1 ∧ b = 0 ∧ c = 0 ∧ dl = 0) := by
  unfold mayS at h
  split at h
  · rename_i hk
    simp [hasS] at h
    exact .inl ⟨hk, by omega, by omega, by omega, by omega, by omega⟩
  · split at h
    · rename_i hk
      simp [hasS] at h
      exact .inr (.inl ⟨hk, by omega, by omega, by omega, by omega, by omega⟩)
    · split at h
      · rename_i hk
        simp at h
        exact .inr (.inr ⟨hk, by omega, by omega, by omega, by omega⟩)
      · cases h
theorem doS_ok {n : Nat} {S : Ids} {k b c e : Int} {d : List Int} (ok : IdOk n S) (h : mayS n S.ep k b c e d.length = true) : IdOk n (doS n S k b c e d) := by
  have hc := may_cases h
  have ob := ok.b; have oo := ok.o
  have z64 : (List.replicate 64 (0 : Int)).length = 64 := List.length_replicate
  have fo : ∀ (b m : Nat) (x : Bk), b + m ≤ n → (∀ l, x = some l → l.length = 64) → ∀ (i : Nat) (y : Bk) (l : List Int), (fillS S.over b x m)[i]? = some y → y = some l → l.length = 64 := fun b m x hb hx i y l hi hy => by
    rw [fillS_get _ _ _ _ _ (by omega)] at hi
    split at hi
    · cases hi; exact hx l hy
    · exact ok.has2 i y l hi hy
  have fb : ∀ (b m : Nat) (l0 : List Int), b + m ≤ n → l0.length = 64 → ∀ (i : Nat) (y : Bk), (fillS S.base b (some l0) m)[i]? = some y → ∃ l : List Int, y = some l ∧ l.length = 64 := fun b m l0 hb hx i y hi => by
    rw [fillS_get _ _ _ _ _ (by omega)] at hi
    split at hi
    · cases hi; exact ⟨l0, rfl, hx⟩
    · exact ok.has i y hi
  unfold doS
  split
  · exact ⟨ob, by show (fillS _ _ _ _).length = n; rw [fillS_len]; exact oo, ok.pos, ok.le, ok.has, fo _ _ _ (by omega) (fun l hl => by cases hl; omega)⟩
  · split
    · exact ⟨ob, by show (fillS _ _ _ _).length = n; rw [fillS_len]; exact oo, ok.pos, ok.le, ok.has, fo _ _ _ (by omega) (fun l hl => by cases hl; exact z64)⟩
    · split
      · obtain ⟨m1, m2, _⟩ := mk_len S n
        refine ⟨m1.trans ob, m2.trans oo, ok.pos, ok.le, fun i x hx => ?_, fun i x l hx hl => ?_⟩
        · replace hx : (mkTo S n).base[i]? = some x := hx
          have hi := (List.getElem?_eq_some_iff.1 hx).1
          have hin : i < n := by omega
          rw [(mk_get ob oo n (Nat.le_refl _) i hin).1, if_pos hin] at hx
          cases hx
          have hb := ok.has i (S.base.getD i none) (by simp [List.getD, show i < S.base.length by omega])
          cases ho : S.over.getD i none with
          | none => exact hb
          | some l => exact ⟨l, rfl, ok.has2 i _ l (by simp [show i < S.over.length by omega]; rfl) (by rw [← ho]; simp [List.getD, show i < S.over.length by omega])⟩
        · replace hx : (mkTo S n).over[i]? = some x := hx
          have hi := (List.getElem?_eq_some_iff.1 hx).1
          have hin : i < n := by omega
          rw [(mk_get ob oo n (Nat.le_refl _) i hin).2, if_pos hin] at hx
          cases hx; cases hl
      · split
        · exact ⟨by show (fillS _ _ _ _).length = n; rw [fillS_len]; exact ob, oo, ok.pos, ok.le, fb _ _ _ (by omega) (by omega), ok.has2⟩
        · rcases hc with hc | hc | hc
          · omega
          · exact ⟨by show (fillS _ _ _ _).length = n; rw [fillS_len]; exact ob, oo, ok.pos, ok.le, fb _ _ _ (by omega) z64, ok.has2⟩
          · omega
theorem doS_sm {n : Nat} {S : Ids} {k b c e K : Int} {d : List Int} (sm : Sm K S) (h : mayS n S.ep k b c e d.length = true) : Sm (K + 1) (doS n S k b c e d) := by
  have hc := may_cases h
  obtain ⟨⟨a1, a2⟩, ⟨a3, a4⟩, ⟨a5, a6⟩⟩ := sm
  obtain ⟨_, _, m3, m4, m5⟩ := mk_len S n
  unfold doS
  split
  · exact ⟨⟨a1, by show S.ep ≤ K + 1; omega⟩, ⟨by show 0 ≤ S.sq + 1; omega, by show S.sq + 1 ≤ K + 1; omega⟩, ⟨a5, by show S.dn ≤ K + 1; omega⟩⟩
  · split
    · exact ⟨⟨a1, by show S.ep ≤ K + 1; omega⟩, ⟨by show 0 ≤ S.sq + 1; omega, by show S.sq + 1 ≤ K + 1; omega⟩, ⟨a5, by show S.dn ≤ K + 1; omega⟩⟩
    · split
      · exact ⟨⟨by show 0 ≤ e; omega, by show e ≤ K + 1; omega⟩, ⟨by show 0 ≤ S.sq + 1; omega, by show S.sq + 1 ≤ K + 1; omega⟩, ⟨by show 0 ≤ S.sq + 1; omega, by show S.sq + 1 ≤ K + 1; omega⟩⟩
      · split
        · exact ⟨⟨a1, by show S.ep ≤ K + 1; omega⟩, ⟨a3, by show S.sq ≤ K + 1; omega⟩, ⟨a5, by show S.dn ≤ K + 1; omega⟩⟩
        · exact ⟨⟨a1, by show S.ep ≤ K + 1; omega⟩, ⟨a3, by show S.sq ≤ K + 1; omega⟩, ⟨a5, by show S.dn ≤ K + 1; omega⟩⟩
section
variable {H B : PH} {R : List Ob} {a : Addr} {S : Ids} {n : Nat} {K : Int}
theorem do_spec {o : Int × Int × Int × Int × Sl} {d : List Int} {Q : Bool → PH → Prop} (h : IdS H B a S R) (ok : IdOk n S) (sm : Sm K S) (hK : K < 2 ^ 40) (hd : Bytes B o.2.2.2.2 d)
    (hQ : ∀ B' H', Ext B B' → IdS H' B' a (if mayS n S.ep o.1 o.2.1 o.2.2.1 o.2.2.2.1 d.length then doS n S o.1 o.2.1 o.2.2.1 o.2.2.2.1 d else S) R → Q (mayS n S.ep o.1 o.2.1 o.2.2.1 o.2.2.2.1 d.length) H') : ideal_Ideal_Do (some a) o H Q := by
  obtain ⟨sb, so, lb, lo, fb, fo, h⟩ := h
  obtain ⟨k, b, c, e, s⟩ := o
  simp only at hd hQ
  refine F_row h fun a1 B1 H1 x1 r1 h1 => ⟨(k, b, c, e, s), (r1.ext h1.base).all rfl, ?_⟩
  refine may_spec (o := (k, b, c, e, s)) (IdS.up fb fo x1 h1) ok sm hK (hd.ext (x1.trans h1.base)) fun B2 H2 x2 h2 => ?_
  clear h1
  simp only
  by_cases hm : mayS n S.ep k b c e d.length = true
  rotate_left
  · have hm' : mayS n S.ep k b c e d.length = false := by simpa using hm
    rw [hm'] at hQ ⊢
    exact mIf_pos rfl (hQ B2 H2 (x1.trans x2) h2)
  rw [hm] at hQ ⊢
  have hc := may_cases hm
  obtain ⟨sb, so, lb, lo, fb, fo, h2⟩ := h2
  have r2 := r1.ext x2
  have hr : RowAt H2 a (idRow sb so S) := h2.get 1 rfl
  obtain ⟨⟨g1, g2⟩, ⟨g3, g4⟩, _⟩ := id sm
  refine mIf_neg rfl (nil_some (ld_row (x := sb) hr rfl (ld_row (x := k) (r2.ext h2.base) rfl ?_)))
  refine mJoin_cut (fun sl Hk => ∃ sb so lb lo, Fo B2 lb (if k = 3 then mkTo S n else S).base ∧ Fo B2 lo (if k = 3 then mkTo S n else S).over ∧
    Stars Hk (baseO B2 :: (idO a sb so lb lo (if k = 3 then { mkTo S n with ep := e, sq := S.sq + 1, dn := S.sq + 1 } else if k = 1 ∨ k = 2 then { S with sq := S.sq + 1 } else S) ++ R)) ∧ (k = 1 ∨ k = 2 → sl = so) ∧ (k = 5 ∨ k = 6 → sl = sb)) ?_ ?_
  rotate_left
  · intro j16 hj
    refine mIf_intro (fun c1 => ?_) (fun c1 => ?_)
    · have k3 : k = 3 := by simpa using c1
      refine ld_row (x := e) (r2.ext h2.base) rfl (mark_spec fb fo h2 ok sm hK fun lb' lo' H3 fb' fo' h3 => hj _ _ ⟨sb, so, lb', lo', ?_, ?_, ?_, by omega, by omega⟩)
      · rw [if_pos k3]; exact fb'
      · rw [if_pos k3]; exact fo'
      · rw [if_pos k3]; exact h3
    · have k3 : ¬ k = 3 := by simpa using c1
      refine mJoin_cut (fun s Hk => s = decide (k = 1 ∨ k = 2) ∧ Hk = H2) ?_ ?_
      rotate_left
      · intro j hj
        refine mIf_intro (fun c => hj _ _ ⟨?_, rfl⟩) (fun c => hj _ _ ⟨?_, rfl⟩)
        · rw [c, decide_eq_true (.inl (by simpa using c))]
        · have c' : ¬ k = 1 := by simpa using c
          simp [c', Bool.beq_eq_decide_eq]
      rintro _ H2 ⟨rfl, rfl⟩
      refine mIf_intro (fun c2 => ?_) (fun c2 => ?_)
      · have k12 : k = 1 ∨ k = 2 := by simpa using c2
        refine nil_some (ld_row (x := so) hr rfl (nil_some (ld_row (x := S.sq) hr rfl (nil_some ?_))))
        rw [wrap64_id (x := S.sq + 1) (by omega) (by omega)]
        refine S_st h2 1 rfl (by simp [idRow]) rfl fun H3 h3 => hj _ _ ⟨sb, so, lb, lo, ?_, ?_, ?_, fun _ => rfl, by omega⟩
        · rw [if_neg k3]; exact fb
        · rw [if_neg k3]; exact fo
        · rw [if_neg k3, if_pos k12]; exact h3
      · have k12 : ¬ (k = 1 ∨ k = 2) := by simpa using c2
        refine hj _ _ ⟨sb, so, lb, lo, ?_, ?_, ?_, fun h => absurd h k12, fun _ => rfl⟩
        · rw [if_neg k3]; exact fb
        · rw [if_neg k3]; exact fo
        · rw [if_neg k3, if_neg k12]; exact h2
  clear fb fo h2 hr
  clear sb so lb lo
  rintro sl H3 ⟨sb, so, lb, lo, fb, fo, h3, hs1, hs2⟩
  refine ld_row (x := s) (r2.ext h3.base) rfl (clone1 h3 (hd.ext (x1.trans (x2.trans h3.base))) (by omega) fun y B4 H4 x4 hy h4 => ?_)
  have fb4 := fb.ext x4; have fo4 := fo.ext x4
  have r4 := r2.ext x4
  refine mJoin_cut (fun z Hk => ∃ B5, Ext B4 B5 ∧ BkAt B5 z (if d.length = 0 then zer else some d) ∧ Stars Hk (baseO B5 :: (idO a sb so lb lo (if k = 3 then { mkTo S n with ep := e, sq := S.sq + 1, dn := S.sq + 1 } else if k = 1 ∨ k = 2 then { S with sq := S.sq + 1 } else S) ++ R))) ?_ ?_
  rotate_left
  · intro j24 hj
    rw [hy.lenI]
    refine mIf_intro (fun c1 => F_zeroM h4 (by decide) fun z B5 H5 x5 hz h5 => hj _ _ ⟨B5, x5, ?_, h5⟩) (fun c1 => hj _ _ ⟨B4, .refl B4, ?_, h4⟩)
    · have c1' : d.length = 0 := by have : (d.length : Int) = 0 := by simpa using c1
                                    omega
      rw [if_pos c1']
      exact ⟨List.length_replicate, hz⟩
    · have c1' : ¬ d.length = 0 := by have : ¬ (d.length : Int) = 0 := by simpa using c1
                                      omega
      rw [if_neg c1']
      exact ⟨by omega, hy⟩
  rintro z H5 ⟨B5, x5, hz, h5⟩
  have fb5 := fb4.ext x5; have fo5 := fo4.ext x5
  have r5 := r4.ext x5
  refine ⟨(k, b, c, e, s), (r5.ext h5.base).all rfl, blocks_spec h5 fun B6 H6 x6 h6 => ?_⟩
  simp only
  have fb6 := fb5.ext x6; have fo6 := fo5.ext x6
  have r6 := r5.ext x6
  have hz6 := hz.ext x6
  have xx : Ext B B6 := x1.trans (x2.trans (x4.trans (x5.trans x6)))
  have ob := ok.b; have oo := ok.o; have hn := ok.le
  have eb := fb6.len; have eo := fo6.len
  rcases hc with ⟨hk, h0, hbn, hc0, he0, hdl⟩ | ⟨hk, hc1, h0, hbc, he0, hdl⟩ | ⟨hk, he, hb, hc0, hdl⟩
  · rw [if_neg (by omega)] at hz6 eb eo fb6 fo6 h6
    rw [if_pos hk]
    rcases hk with hk | hk
    · rw [if_pos (.inl hk)] at h6
      rw [hs1 (.inl hk)]
      refine fill_loop (b := b) (m := 1) 2 h6 rfl r6 rfl h0 (by omega) (by omega) fun H7 h7 => hQ B6 H7 xx ⟨sb, so, lb, fillS lo b.toNat z 1, ?_, ?_, ?_⟩
      · rw [if_pos rfl, doS, if_pos hk]; exact fb6
      · rw [if_pos rfl, doS, if_pos hk]; exact fo6.fill hz6 b.toNat 1
      · rw [if_pos rfl, doS, if_pos hk]; exact h7
    · rw [if_neg (by omega)] at h6
      rw [hs2 (.inl hk)]
      have ed : doS n S k b c e d = { S with base := fillS S.base b.toNat (some d) 1 } := by
        rw [doS, if_neg (by omega), if_neg (by omega), if_neg (by omega), if_pos hk]
      refine fill_loop (b := b) (m := 1) 1 h6 rfl r6 rfl h0 (by omega) (by omega) fun H7 h7 => hQ B6 H7 xx ⟨sb, so, fillS lb b.toNat z 1, lo, ?_, ?_, ?_⟩
      · rw [if_pos rfl, ed]; exact fb6.fill hz6 b.toNat 1
      · rw [if_pos rfl, ed]; exact fo6
      · rw [if_pos rfl, ed]; exact h7
  · rw [if_pos (by omega)] at hz6
    rw [if_neg (by omega)] at eb eo fb6 fo6 h6
    rw [if_neg (by omega)]
    obtain ⟨m, hm'⟩ := Int.eq_ofNat_of_zero_le (show 0 ≤ c by omega)
    subst hm'
    rcases hk with hk | hk
    · rw [if_pos (.inr hk)] at h6
      rw [hs1 (.inr hk)]
      have ed : doS n S k b m e d = { S with over := fillS S.over b.toNat zer m, sq := S.sq + 1 } := by
        rw [doS, if_neg (by omega), if_pos hk, Int.toNat_natCast]
      refine fill_loop (b := b) (m := m) 2 h6 rfl r6 rfl h0 (by omega) (by omega) fun H7 h7 => hQ B6 H7 xx ⟨sb, so, lb, fillS lo b.toNat z m, ?_, ?_, ?_⟩
      · rw [if_pos rfl, ed]; exact fb6
      · rw [if_pos rfl, ed]; exact fo6.fill hz6 b.toNat m
      · rw [if_pos rfl, ed]; exact h7
    · rw [if_neg (by omega)] at h6
      rw [hs2 (.inr hk)]
      have ed : doS n S k b m e d = { S with base := fillS S.base b.toNat zer m } := by
        rw [doS, if_neg (by omega), if_neg (by omega), if_neg (by omega), if_neg (by omega), Int.toNat_natCast]
      refine fill_loop (b := b) (m := m) 1 h6 rfl r6 rfl h0 (by omega) (by omega) fun H7 h7 => hQ B6 H7 xx ⟨sb, so, fillS lb b.toNat z m, lo, ?_, ?_, ?_⟩
      · rw [if_pos rfl, ed]; exact fb6.fill hz6 b.toNat m
      · rw [if_pos rfl, ed]; exact fo6
      · rw [if_pos rfl, ed]; exact h7
  · rw [if_pos hk] at fb6 h6
    rw [if_pos hk] at fo6
    rw [if_neg (by omega), hc0]
    have ed : doS n S k b c e d = { mkTo S n with ep := e, sq := S.sq + 1, dn := S.sq + 1 } := by
      rw [doS, if_neg (by omega), if_neg (by omega), if_pos hk]
    rw [hc0] at ed
    refine mLoop_count 0 (fun j st Hk => st = (j : Int) ∧ Hk = H6) ⟨rfl, rfl⟩ ?_
    rintro j st H7 again hj ⟨rfl, rfl⟩ hag
    refine mIf_neg (by simp) (hQ B6 H7 xx ⟨sb, so, lb, lo, ?_, ?_, ?_⟩)
    · rw [if_pos rfl, hc0, ed]; exact fb6
    · rw [if_pos rfl, hc0, ed]; exact fo6
    · rw [if_pos rfl, hc0, ed]; exact h6
end
end Go.Proofs.Ytfjpapddfdhhlaa

/- ideal: THE LAW IdealPlays, on formulas. -/
import Derived.Test.YtfjpapddfdhhlaaIdlJ
set_option linter.unusedVariables false
set_option linter.unusedSimpArgs false
namespace Go.Proofs.Ytfjpapddfdhhlaa
open Go Go.Kx
open Go.ChangeShapes Go.WideShapes Go.ChangeAt Go.RowKit in
/-- As in_sliceN, and how long it may be. -/
theorem in_sliceB {H : Type} {enc : TypeId × Value → H} {P : Program} {α : Type} {enc' : α → List Value} {sz : Nat} {R : α → Prop} {t e fuel : Nat} {W : World} {cs : List Value} {d : DataW H} {ps : List MemPlace} (hu : P.underlying t = some (.slice e)) (hc : P.cellsOf e = sz) (hsz : 0 < sz)
    (hel : ∀ n cs x, DataW.trod enc P W 0 (fun _ => true) true n e cs = some x → ∃ a, cs = enc' a ∧ R a)
    (h : DataW.trod enc P W 0 (fun _ => true) true fuel t cs = some (d, ps)) : ∃ s l, cs = [Sl.v s] ∧ ListN enc' sz (heapOf W) s l ∧ (∀ a, a ∈ l → R a) ∧ l.length ≤ 9223372036854775807 := by
  obtain ⟨s, l, h1, h2, h3⟩ := in_sliceN hu hc hsz hel h
  refine ⟨s, l, h1, h2, h3, ?_⟩
  have e1 := h2.1
  rcases Go.Deep.open_slice hu h with ⟨k1, k2⟩ | ⟨a, len, cap, m, n, D, Pl, k1, _, hle, hcm, hm, hx, hel2⟩
  · rw [k1] at h1
    have h0 : [Sl.v Sl.nil] = [Sl.v s] := h1
    have : none = s.a ∧ 0 = s.len ∧ 0 = s.cap := by simpa using h0
    omega
  · rw [k1] at h1
    have h0 : [Sl.v ⟨some a, len, cap⟩] = [Sl.v s] := h1
    have : some a = s.a ∧ len = s.len ∧ cap = s.cap := by simpa using h0
    have hm2 : maxLen = 9223372036854775807 := rfl
    omega
abbrev OpL := Int × Int × Int × Int × Sl × List Int
def encO (x : OpL) : List Value := [.int .i64 x.1, .int .i64 x.2.1, .int .i64 x.2.2.1, .int .i64 x.2.2.2.1, Sl.v x.2.2.2.2.1]
def Two (H B : PH) (a c : Addr) (S T : Ids) : Prop := ∃ sb so lb lo sb' so' lb' lo', Fo B lb S.base ∧ Fo B lo S.over ∧ Fo B lb' T.base ∧ Fo B lo' T.over ∧ Stars H (baseO B :: (idO a sb so lb lo S ++ idO c sb' so' lb' lo' T))
section
variable {H B : PH} {a c : Addr} {S T : Ids}
theorem Two.ext (h : Two H B a c S T) : Ext B H := let ⟨_, _, _, _, _, _, _, _, _, _, _, _, h⟩ := h; h.base
theorem Two.left (h : Two H B a c S T) : ∃ R, IdS H B a S R ∧ ∀ H' B' S', Ext B B' → IdS H' B' a S' R → Two H' B' a c S' T := by
  obtain ⟨sb, so, lb, lo, sb', so', lb', lo', fb, fo, fb', fo', h⟩ := h
  refine ⟨idO c sb' so' lb' lo' T, ⟨sb, so, lb, lo, fb, fo, h⟩, ?_⟩
  rintro H' B' S' x ⟨sb, so, lb, lo, fb, fo, h⟩
  exact ⟨sb, so, lb, lo, sb', so', lb', lo', fb, fo, fb'.ext x, fo'.ext x, h⟩
theorem Two.right (h : Two H B a c S T) : ∃ R, IdS H B c T R ∧ ∀ H' B' T', Ext B B' → IdS H' B' c T' R → Two H' B' a c S T' := by
  obtain ⟨sb, so, lb, lo, sb', so', lb', lo', fb, fo, fb', fo', h⟩ := h
  refine ⟨idO a sb so lb lo S, ⟨sb', so', lb', lo', fb', fo', h.pick [0, 4, 5, 6, 1, 2, 3] (by decide) rfl (by simp [idO])⟩, ?_⟩
  rintro H' B' T' x ⟨sb', so', lb', lo', fb', fo', h⟩
  exact ⟨sb, so, lb, lo, sb', so', lb', lo', fb.ext x, fo.ext x, fb', fo', h.pick [0, 4, 5, 6, 1, 2, 3] (by decide) rfl (by simp [idO])⟩
theorem few_spec {p : Sl} {l : List OpL} {Q : Bool → PH → Prop} (hp : ListN encO 5 H p l) (hd : ∀ x, x ∈ l → Bytes H x.2.2.2.2.1 x.2.2.2.2.2) (hl : l.length ≤ 9223372036854775807) (hF : Q false H) (hT : l.length ≤ 80 → (∀ x, x ∈ l → x.2.2.2.2.2.length ≤ 100) → Q true H) : keelsonlaw24_few p H Q := by
  have e := hp.lenI
  refine mLoop_count l.length (fun k st Hk => st = (k : Int) ∧ Hk = H ∧ ∀ i x, i < k → l[i]? = some x → x.2.2.2.2.2.length ≤ 100) ⟨rfl, rfl, fun i x h => absurd h (by omega)⟩ ?_
  rintro k st H2 again hk ⟨rfl, rfl, hs⟩ hag
  rw [e]
  refine mIf_intro (fun c => ?_) (fun c => ?_)
  · have hkl : k < l.length := by simpa using c
    refine idxL hp (by omega) (by omega) fun b x hx hc => ⟨x.2.2.2.2.1, cells_at hc rfl, ?_⟩
    rw [Int.toNat_natCast] at hx
    have hb := (hd x (List.mem_of_getElem? hx)).lenI
    refine mIf_intro (fun _ => hF) (fun c1 => ?_)
    rw [show IntKind.wrap .i64 ((k : Int) + 1) = ((k + 1 : Nat) : Int) by rw [wrap64_id (by omega) (by omega)]; push_cast; rfl]
    refine hag hkl _ _ ⟨rfl, rfl, fun i y hi hy => ?_⟩
    by_cases ei : i = k
    · subst ei; rw [hx] at hy; cases hy
      have := of_decide_eq_false c1; omega
    · exact hs i y (by omega) hy
  · have hkl : k = l.length := by simp at c; omega
    subst hkl
    by_cases h80 : l.length ≤ 80
    · rw [decide_eq_true (show (l.length : Int) ≤ 80 by omega)]
      refine hT h80 fun x hx => ?_
      obtain ⟨i, hi⟩ := List.getElem?_of_mem hx
      exact hs i x (List.getElem?_eq_some_iff.1 hi).1 hi
    · rw [decide_eq_false (show ¬ (l.length : Int) ≤ 80 by omega)]; exact hF
end
theorem plays_law {H : PH} {p0 p2 : Int} {s1 : Sl} {l1 : List OpL} (h1 : ListN encO 5 H s1 l1) (hd : ∀ x, x ∈ l1 → Bytes H x.2.2.2.2.1 x.2.2.2.2.2) (hlen : l1.length ≤ 9223372036854775807) : keelsonlaw24_IdealPlays p0 s1 p2 H (DoneD H) := by
  have hawake : ∀ H2, Ext H H2 → keelsonlaw24_awake H2 (DoneD H) := fun H2 x2 => awake_spec fun H3 x3 => ⟨rfl, x2.trans x3⟩
  have hl1 := h1.lenI
  refine few_spec h1 hd hlen (mIf_pos rfl (hawake H (.refl H))) fun hl h100 => mIf_neg rfl ?_
  by_cases hp : 1 ≤ p0 ∧ p0 ≤ 64
  rotate_left
  · exact new_none hp (rnew_none hp (mIf_pos rfl (mJoin_intro (mIf_pos rfl (hawake H (.refl H))))))
  obtain ⟨n, rfl⟩ := Int.eq_ofNat_of_zero_le (show 0 ≤ p0 by omega)
  have hn : 1 ≤ n ∧ n ≤ 64 := ⟨by omega, by omega⟩
  refine new_spec (R := []) (Stars.start H) hn fun a B1 H1 x1 h2 => ?_
  obtain ⟨sb, so, lb, lo, fb, fo, h2⟩ := h2
  refine rnew_spec (R := idO a sb so lb lo (newS n)) h2 hn fun c B2 H2 x2 h3 => mIf_neg rfl (mIf_neg rfl ?_)
  have h3' : Two H2 B2 a c (newS n) (newS n) := by
    obtain ⟨sb', so', lb', lo', fb', fo', h3⟩ := h3
    exact ⟨sb, so, lb, lo, sb', so', lb', lo', fb.ext x2, fo.ext x2, fb', fo', h3.pick [0, 4, 5, 6, 1, 2, 3] (by decide) rfl (by simp [idO])⟩
  refine mLoop_count l1.length (fun k st Hk => st = (k : Int) ∧ ∃ B' S, Ext H B' ∧ IdOk n S ∧ Sm k S ∧ Two Hk B' a c S S) ⟨rfl, B2, newS n, x1.trans x2, newS_ok hn, newS_sm n, h3'⟩ ?_
  clear h3 h3' h2 fb fo
  rintro k st H3 again hk ⟨rfl, B3, S, xB, ok, sm, h3⟩ hag
  have ob := ok.b; have hn64 := ok.le
  refine mIf_intro (fun ck => ?_) (fun ck => ?_)
  · have hkl : k < l1.length := by simp at ck; omega
    refine ⟨Int.tmod_nonneg 60 (by omega), ?_⟩
    refine mJoin_cut (fun _ Hk => ∃ S, IdOk n S ∧ Sm k S ∧ Two Hk B3 a c S S) ?_ ?_
    rotate_left
    · intro j26 hj
      refine mIf_intro (fun cf => ?_) (fun cf => hj _ _ ⟨S, ok, sm, h3⟩)
      obtain ⟨R, hL, bL⟩ := h3.left
      refine forget_spec hL fun H4 h4 => ?_
      obtain ⟨R2, hR, bR⟩ := (bL _ _ _ (.refl B3) h4).right
      refine rforget_spec hR ok fun H5 h5 => hj _ _ ⟨fgS S, fgS_ok ok, fgS_sm sm, bR _ _ _ (.refl B3) h5⟩
    clear h3 sm ok ob S
    rintro _ H4 ⟨S, ok, sm, h4⟩
    have ob := ok.b
    obtain ⟨x, hxk⟩ : ∃ x, l1[(k : Int).toNat]? = some x := ⟨_, List.getElem?_eq_getElem (by simpa using hkl)⟩
    have hdx := hd x (List.mem_of_getElem? hxk)
    refine idxL (h1.ext (xB.trans h4.ext)) (by omega) (by omega) fun b1 x' hx' hc1 => ?_
    rw [hxk] at hx'; cases hx'
    refine ⟨(x.1, x.2.1, x.2.2.1, x.2.2.2.1, x.2.2.2.2.1), hc1, idxL h1 (by omega) (by omega) fun b2 x' hx' hc2 => ?_⟩
    rw [hxk] at hx'; cases hx'
    refine ⟨(x.1, x.2.1, x.2.2.1, x.2.2.2.1, x.2.2.2.2.1), (xB.trans h4.ext).cells hc2, ?_⟩
    obtain ⟨R, hL, bL⟩ := h4.left
    refine do_spec (o := (x.1, x.2.1, x.2.2.1, x.2.2.2.1, x.2.2.2.2.1)) hL ok sm (by omega) (hdx.ext xB) fun B5 H5 x5 h5 => ?_
    have h5' := bL _ _ _ x5 h5
    clear hL bL h5
    refine ⟨(xB.trans (x5.trans h5'.ext)).cells hc2, ?_⟩
    obtain ⟨R2, hR, bR⟩ := h5'.right
    refine rdo_spec (o := (x.1, x.2.1, x.2.2.1, x.2.2.2.1, x.2.2.2.2.1)) hR ok sm (by omega) (hdx.ext (xB.trans x5)) fun B6 H6 x6 h6 => ?_
    have h6' := bR _ _ _ x6 h6
    clear hR bR h6 h5'
    simp only at h6' ⊢
    have key : ∃ S', IdOk n S' ∧ Sm ((k + 1 : Nat) : Int) S' ∧ Two H6 B6 a c S' S' := by
      by_cases hm : mayS n S.ep x.1 x.2.1 x.2.2.1 x.2.2.2.1 x.2.2.2.2.2.length = true
      · rw [if_pos hm] at h6'
        refine ⟨_, doS_ok ok hm, ?_, h6'⟩
        rw [show ((k + 1 : Nat) : Int) = k + 1 by push_cast; rfl]
        exact doS_sm sm hm
      · rw [if_neg hm] at h6'
        obtain ⟨⟨e1, e2⟩, ⟨e3, e4⟩, ⟨e5, e6⟩⟩ := sm
        exact ⟨S, ok, ⟨⟨e1, by omega⟩, ⟨e3, by omega⟩, ⟨e5, by omega⟩⟩, h6'⟩
    clear h6' ok sm ob
    clear h4
    obtain ⟨S', ok, sm, h6⟩ := key
    have xB6 := xB.trans (x5.trans x6)
    have ob := ok.b
    obtain ⟨sb, so, lb, lo, sb', so', lb', lo', fb, fo, fb', fo', h7⟩ := id h6
    have hrc : RowAt H6 c (idRow sb' so' S') := h7.get 4 rfl
    obtain ⟨R, hL, bL⟩ := h6.left
    refine mJoin_cut (fun s Hk => s = false ∧ Hk = H6) ?_ ?_
    rotate_left
    · intro j44 hj
      refine mIf_neg (by simp) (nil_some (ld_row (x := S'.ep) hrc rfl (epoch_spec hL (same_row hrc rfl (hj _ _ ⟨by simp, rfl⟩)))))
    rintro _ H6 ⟨rfl, rfl⟩
    refine mJoin_cut (fun s Hk => s = false ∧ Hk = H6) ?_ ?_
    rotate_left
    · intro j44 hj
      refine mIf_neg rfl (nil_some (ld_row (x := S'.sq) hrc rfl (seq_spec hL (same_row hrc rfl (hj _ _ ⟨by simp, rfl⟩)))))
    rintro _ H6 ⟨rfl, rfl⟩
    refine mJoin_cut (fun s Hk => s = false ∧ Hk = H6) ?_ ?_
    rotate_left
    · intro j44 hj
      refine mIf_neg rfl (nil_some (ld_row (x := S'.dn) hrc rfl (done_spec hL (same_row hrc rfl (hj _ _ ⟨by simp, rfl⟩)))))
    rintro _ H6 ⟨rfl, rfl⟩
    refine mIf_neg rfl ?_
    clear hrc hL bL h7 fb fo fb' fo'
    refine mLoop_count (n + 2) (fun j st Hk => st = (j : Int) - 1 ∧ ∃ B', Ext B6 B' ∧ Two Hk B' a c S' S') ⟨rfl, B6, .refl B6, h6⟩ ?_
    clear h6
    rintro j st H7 again2 hj ⟨rfl, B7, x7, h7⟩ hag2
    refine mIf_intro (fun cj => ?_) (fun cj => ?_)
    · have hjn : j < n + 2 := by have := of_decide_eq_true cj; omega
      have l64 : ∀ b, (rdS S' b).length ≤ 64 ∧ (lkS S' b).length ≤ 64 := fun b => by
        by_cases hb : 0 ≤ b ∧ b < S'.base.length
        · obtain ⟨m, rfl⟩ := Int.eq_ofNat_of_zero_le hb.1
          have g1 := (rd_get ok (k := m) (by omega)).2
          have g2 := (lk_get ok (k := m) (by omega)).2
          omega
        · rw [rdS, if_neg hb, lkS, if_neg hb]; exact ⟨by decide, by decide⟩
      obtain ⟨R, hL, bL⟩ := h7.left
      refine read_spec hL ok fun B8 H8 y x8 hy h8 => ?_
      have h8' := bL _ _ _ x8 h8
      obtain ⟨R2, hR, bR⟩ := h8'.right
      refine rread_spec hR ok fun y2 hy2 => equal_spec (hy.ext h8'.ext) hy2 (by have := (l64 ((j : Int) - 1)).1; omega) ?_
      rw [decide_eq_true rfl]
      refine mJoin_cut (fun s Hk => s = false ∧ ∃ B', Ext B6 B' ∧ Two Hk B' a c S' S') ?_ ?_
      · rintro _ H9 ⟨rfl, B9, x9, h9⟩
        refine mIf_neg rfl ?_
        rw [wrap64_id (x := (j : Int) - 1 + 1) (by omega) (by omega)]
        exact hag2 hjn _ _ ⟨by push_cast; omega, B9, x9, h9⟩
      · intro j71 hj
        obtain ⟨R3, hL3, bL3⟩ := h8'.left
        refine mIf_neg rfl (look_spec hL3 ok fun B9 H9 y3 x9 hy3 h9 => ?_)
        have h9' := bL3 _ _ _ x9 h9
        obtain ⟨R4, hR4, bR4⟩ := h9'.right
        refine rlook_spec hR4 ok fun y4 hy4 => equal_spec (hy3.ext h9'.ext) hy4 (by have := (l64 ((j : Int) - 1)).2; omega) ?_
        rw [decide_eq_true rfl]
        exact hj _ _ ⟨rfl, B9, x7.trans (x8.trans x9), h9'⟩
    · rw [wrap_succ (by omega)]
      exact hag hkl _ _ ⟨rfl, B7, S', xB6.trans x7, ok, sm, h7⟩
  · obtain ⟨R, hL, bL⟩ := h3.left
    refine all_spec hL ok fun B4 H4 q lq x4 hq fq h4 => ?_
    have h4' := bL _ _ _ x4 h4
    obtain ⟨sb, so, lb, lo, sb', so', lb', lo', fb, fo, fb', fo', h7⟩ := id h4'
    have hrc : RowAt H4 c (idRow sb' so' S) := h7.get 4 rfl
    refine mJoin_cut (fun s Hk => s = true ∧ Hk = H4) ?_ ?_
    rotate_left
    · intro j110 hj
      exact mIf_pos rfl (nil_some (ld_row (x := sb') hrc rfl (blocks_eq (hq.ext h4'.ext) (h7.list (enc := Sl.v) 5 rfl) (fq.ext h4'.ext) (fb'.ext h4'.ext) (by omega) (hj _ _ ⟨rfl, rfl⟩))))
    rintro _ H4 ⟨rfl, rfl⟩
    exact mJoin_intro (mIf_pos rfl (hawake H4 (xB.trans (x4.trans h4'.ext))))
end Go.Proofs.Ytfjpapddfdhhlaa

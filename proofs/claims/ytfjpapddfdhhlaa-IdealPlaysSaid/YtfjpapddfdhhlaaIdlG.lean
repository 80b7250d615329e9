/- ideal: All, the law's all, Blocks. -/
import Derived.Test.YtfjpapddfdhhlaaIdlF
set_option linter.unusedVariables false
set_option linter.unusedSimpArgs false
namespace Go.Proofs.Ytfjpapddfdhhlaa
open Go Go.Kx
theorem BkAt.bytes {B : PH} {s : Sl} {x : Bk} (h : BkAt B s x) : Bytes B s (x.getD []) ∧ (x.getD []).length ≤ 64 := by
  cases x with
  | none => rw [show s = Sl.nil from h]; exact ⟨.nil, by decide⟩
  | some l => exact ⟨h.2, by show l.length ≤ 64; rw [h.1]; decide⟩
theorem blocks_eq {H : PH} {s t : Sl} {ls lt : List Sl} {lx : List Bk} {Q : Bool → PH → Prop} (hs : ListAt Sl.v H s ls) (ht : ListAt Sl.v H t lt) (fs : Fo H ls lx) (ft : Fo H lt lx) (hl : lx.length ≤ 65536) (hQ : Q true H) : keelsonalike_Blocks s t H Q := by
  have e1 := hs.lenI; have e2 := ht.lenI
  have l1 := fs.len; have l2 := ft.len
  refine mIf_neg (by rw [e1, e2, l1, l2]; simp) ?_
  refine mLoop_count lx.length (fun k st Hk => st = (k : Int) ∧ Hk = H) ⟨rfl, rfl⟩ ?_
  rintro k st H2 again hk ⟨rfl, rfl⟩ hag
  rw [e1, l1]
  refine mIf_intro (fun c => ?_) (fun _ => hQ)
  have hkl : k < lx.length := by simpa using c
  obtain ⟨x, v, hx, hv, hbx⟩ := fs.get hkl
  obtain ⟨y, v', hy, hv', hby⟩ := ft.get hkl
  rw [hv] at hv'; cases hv'
  refine idx_ld hs (by omega) (by omega) fun x' hx' => idx_ld ht (by omega) (by omega) fun y' hy' => ?_
  rw [Int.toNat_natCast, hx] at hx'; cases hx'
  rw [Int.toNat_natCast, hy] at hy'; cases hy'
  refine equal_spec hbx.bytes.1 hby.bytes.1 (by have := hbx.bytes.2; omega) ?_
  rw [decide_eq_true rfl]
  refine mIf_neg rfl ?_
  rw [wrap_succ (by omega)]
  exact hag hkl _ _ ⟨rfl, rfl⟩
section
variable {H B : PH} {R : List Ob} {a : Addr} {S : Ids} {n : Nat} {K : Int}
theorem allc_spec {γ : Type} {c0 : Addr} {Y : List Value → γ → PH → (Nat → γ → PH → Prop) → Prop} {g0 : γ} {Q : Nat → γ → PH → Prop} (hc : RowAt B c0 [.pointer (some a)]) (ok : IdOk n S) (P : Nat → γ → PH → List Ob → Prop) (mono : ∀ k g B B' R, Ext B B' → P k g B R → P k g B' R)
    (h0 : P 0 g0 B R) (h : IdS H B a S R)
    (step : ∀ k g B' R H K y, k < n → Ext B B' → P k g B' R → Bytes B' y (rdS S k) → IdS H B' a S R → (∀ g' B'' R' H', Ext B B'' → P (k + 1) g' B'' R' → IdS H' B'' a S R' → K 0 g' H') → (∀ j g' H', j ≠ 0 → Q j g' H' → K j g' H') → Y [.int .i64 k, Sl.v y] g H K)
    (fin : ∀ g B' R H, Ext B B' → P n g B' R → IdS H B' a S R → Q 0 g H) : ideal_Ideal_All_c1 c0 Y g0 H Q := by
  have hn := ok.le; have ob := ok.b
  have cell : ∀ {B' H' : PH} {R'}, Ext B B' → IdS H' B' a S R' → cellAt H' c0 = some (.pointer (some a)) := fun x h' => by
    have := ((hc.ext x).ext h'.ext).cell (i := 0) rfl
    rwa [add_zero'] at this
  have hn0 : ∃ sb so lb lo, Fo B lb S.base ∧ Fo B lo S.over ∧ Stars H (baseO B :: (idO a sb so lb lo S ++ R)) := h
  obtain ⟨sb, so, lb, lo, fb, fo, hh⟩ := hn0
  have hl : (sb.len : Int) = n := by rw [(hh.list (enc := Sl.v) 2 rfl).lenI, fb.len, ob]
  refine ⟨some a, cell (.refl B) h, mIf_neg rfl ⟨some a, cell (.refl B) h, nil_some (ld_row (x := sb) (hh.get 1 rfl : RowAt H a (idRow sb so S)) rfl ?_)⟩⟩
  rw [hl]
  refine mLoop_count n (fun k st Hk => ∃ g B' R, st = ((k : Int), (0, g)) ∧ Ext B B' ∧ P k g B' R ∧ IdS Hk B' a S R) ⟨g0, B, R, rfl, .refl B, h0, h⟩ ?_
  rintro k st H1 again hk ⟨g, B1, R1, rfl, x1, p1, h1⟩ hag
  refine mIf_intro (fun c => ?_) (fun c => ?_)
  · have hkn : k < n := by simpa using c
    refine ⟨some a, cell x1 h1, read_spec h1 ok fun B2 H2 y x2 hy h2 => ⟨rfl, ?_⟩⟩
    refine step k g B2 R1 H2 _ y hkn (x1.trans x2) (mono _ _ _ _ _ x2 p1) hy h2 (fun g' B3 R3 H3 x3 p3 h3 => mIf_neg rfl ?_) (fun j g' H' hj hq => mIf_pos (by simpa using hj) hq)
    rw [wrap_succ (by omega)]
    exact hag hkn _ _ ⟨g', B3, R3, rfl, x3, p3, h3⟩
  · have : k = n := by simp at c; omega
    subst this
    exact fin g B1 R1 H1 x1 p1 h1
theorem all_spec {Q : Sl → Bool → PH → Prop} (h : IdS H B a S R) (ok : IdOk n S) (hQ : ∀ B' H' q lq, Ext B B' → ListAt Sl.v B' q lq → Fo B' lq S.base → IdS H' B' a S R → Q q true H') : keelsonlaw24_all (some a) H Q := by
  obtain ⟨sb, so, lb, lo, fb, fo, h⟩ := h
  have ob := ok.b; have hn := ok.le
  refine S_row (Stars.bundle (L := baseO B :: idO a sb so lb lo S) (N := R) h) fun a1 H1 h1 x1 => S_row h1 fun a4 H2 h2 x2 => ?_
  have h2' : Stars H2 (baseO B :: (idO a sb so lb lo S ++ [allO R, rowO a1 [Sl.v Sl.nil], rowO a4 [.bool false]])) := h2.pick [0, 1, 2, 3, 4, 5, 6] (by decide) rfl (by simp [idO])
  refine F_row h2' fun c0 B3 H3 x3 r3 h3 => ⟨.inr ⟨_, _, _, rfl⟩, mIf_neg rfl (S_row h3 fun a19 H4 h4 x4 => ?_)⟩
  have h5 : Stars H4 (baseO B3 :: (idO a sb so lb lo S ++ [allO R, rowO a1 [Sl.v Sl.nil], rowO a4 [.bool false], rowO a19 [Sl.v Sl.nil], vecO Sl.v Sl.nil []])) := h4.nilv.pick [0, 1, 2, 3, 4, 5, 6, 7, 8] (by decide) rfl (by simp [idO])
  refine ideal_Ideal_All_c1_s _ _ _ _ _ (allc_spec (B := B3) (R := [allO R, rowO a1 [Sl.v Sl.nil], rowO a4 [.bool false], rowO a19 [Sl.v Sl.nil], vecO Sl.v Sl.nil []]) r3 ok
    (fun k _ B' R' => ∃ q lq, R' = [allO R, rowO a1 [Sl.v Sl.nil], rowO a4 [.bool false], rowO a19 [Sl.v q], vecO Sl.v q lq] ∧ Fo B' lq (S.base.take k))
    ?_ ⟨Sl.nil, [], rfl, rfl, fun i s x h => by simp at h⟩ ⟨sb, so, lb, lo, fb.ext x3, fo.ext x3, h5⟩ ?_ ?_)
  · rintro k _ B1 B2 R1 x ⟨q, lq, e, f⟩
    exact ⟨q, lq, e, f.ext x⟩
  · rintro k _ B5 R5 H5 K y hkn x5 ⟨q, lq, rfl, fq⟩ hy ⟨sb, so, lb, lo, fb, fo, h5⟩ hnext _
    have hql := (h5.list (enc := Sl.v) 8 rfl).lenI
    have eq := fq.len
    rw [List.length_take] at eq
    refine ⟨_, _, rfl, S_ld1 (x := q) h5 7 rfl (mJoin_cut (fun s Hk => s = false ∧ Hk = H5) ?_ ?_)⟩
    rotate_left
    · intro j32 hj
      refine mIf_neg (by rw [hql, eq]; simp; omega) (S_ld1 (x := q) h5 7 rfl (hj _ _ ⟨?_, rfl⟩))
      rw [hql, eq]; simp; omega
    rintro _ H5 ⟨rfl, rfl⟩
    refine mIf_neg rfl (S_ld1 (x := q) h5 7 rfl (S_new1 (enc := Sl.v) (x := y) h5 fun q1 H6 h6 x6 => S_app (enc := Sl.v) (l := lq) (ys := [y]) h6 8 rfl (h6.list 9 rfl) cvSl rfl (by simp; omega) fun q2 H7 h7 => S_st1 (v := Sl.v q2) h7 7 rfl rfl fun H8 h8 => ?_))
    obtain ⟨g1, g2⟩ := rd_get ok hkn
    refine hnext () B5 [allO R, rowO a1 [Sl.v Sl.nil], rowO a4 [.bool false], rowO a19 [Sl.v q2], vecO Sl.v q2 (lq ++ [y])] H8 x5 ⟨q2, lq ++ [y], rfl, ?_⟩ ⟨sb, so, lb, lo, fb, fo, h8.pick [0, 1, 2, 3, 4, 5, 6, 7, 8] (by decide) rfl (by simp [idO])⟩
    rw [List.take_add_one, g1]
    exact fq.app (x := some _) ⟨g2, hy⟩
  · rintro _ B5 R5 H5 x5 ⟨q, lq, rfl, fq⟩ ⟨sb, so, lb, lo, fb, fo, h5⟩
    rw [List.take_of_length_le (by omega)] at fq
    refine mIf_neg rfl (S_ld1 (x := q) h5 7 rfl (S_st1 (v := Sl.v q) h5 5 rfl rfl fun H6 h6 => S_st1 (v := .bool true) h6 6 rfl rfl fun H7 h7 => S_ld1 (x := q) h7 5 rfl (S_ld1 (enc := Value.bool) (x := true) h7 6 rfl ?_)))
    have h8 : Stars H7 (baseO B5 :: (idO a sb so lb lo S ++ [allO R]) ++ [vecO Sl.v q lq]) := h7.pick [0, 1, 2, 3, 4, 8] (by decide) rfl (by simp [idO])
    refine F_vec (H' := H7) h8 fun B6 x6 hq h9 => hQ B6 H7 q lq (x3.trans (x5.trans x6)) hq (fq.ext x6) ⟨sb, so, lb, lo, fb.ext x6, fo.ext x6, ?_⟩
    exact unb (L := baseO B6 :: idO a sb so lb lo S) (N := R) h9
end
end Go.Proofs.Ytfjpapddfdhhlaa

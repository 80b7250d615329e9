/- ideal: THE LAW IdealStands, on formulas. -/
import Derived.Test.YtfjpapddfdhhlaaIdlE
set_option linter.unusedVariables false
set_option linter.unusedSimpArgs false
namespace Go.Proofs.Ytfjpapddfdhhlaa
open Go Go.Kx
theorem Fo.app {B : PH} {ls : List Sl} {lx : List Bk} (h : Fo B ls lx) {s : Sl} {x : Bk} (hx : BkAt B s x) : Fo B (ls ++ [s]) (lx ++ [x]) := by
  have hl := h.len
  refine ⟨by rw [List.length_append, List.length_append, hl]; rfl, fun i s' x' hs hx' => ?_⟩
  by_cases c : i < ls.length
  · rw [List.getElem?_append_left c] at hs
    rw [List.getElem?_append_left (by omega)] at hx'
    exact h.at' i _ _ hs hx'
  · have hi : i = ls.length := by
      have := (List.getElem?_eq_some_iff.1 hs).1
      simp at this; omega
    subst hi
    rw [List.getElem?_append_right (by omega), Nat.sub_self] at hs
    rw [hl, List.getElem?_append_right (by omega), Nat.sub_self] at hx'
    simp at hs hx'
    subst hs; subst hx'; exact hx
/-- What is looked at, up to k. -/
def lkL (S : Ids) (k : Nat) : List Bk := (List.range k).map fun (b : Nat) => some (lkS S (b : Int))
theorem lkL_succ (S : Ids) (k : Nat) : lkL S (k + 1) = lkL S k ++ [some (lkS S (k : Int))] := by simp [lkL, List.range_succ]
theorem rd_get {n : Nat} {S : Ids} (ok : IdOk n S) {k : Nat} (hk : k < n) : S.base[k]? = some (some (rdS S k)) ∧ (rdS S k).length = 64 := by
  have ob := ok.b
  obtain ⟨v, hv⟩ : ∃ v, S.base[k]? = some v := ⟨_, List.getElem?_eq_getElem (by omega)⟩
  obtain ⟨l, rfl, hl⟩ := ok.has _ _ hv
  have e : rdS S k = l := by rw [rdS, if_pos ⟨by omega, by omega⟩, Int.toNat_natCast]; simp [List.getD, hv]
  rw [e]; exact ⟨hv, hl⟩
theorem lk_get {n : Nat} {S : Ids} (ok : IdOk n S) {k : Nat} (hk : k < n) : mk1 (S.over.getD k none) (S.base.getD k none) = some (lkS S k) ∧ (lkS S k).length = 64 := by
  have ob := ok.b; have oo := ok.o
  obtain ⟨h1, h2⟩ := rd_get ok hk
  obtain ⟨v, hv⟩ : ∃ v, S.over[k]? = some v := ⟨_, List.getElem?_eq_getElem (by omega)⟩
  have ev : S.over.getD k none = v := by simp [List.getD, hv]
  have eb : S.base.getD k none = some (rdS S k) := by simp [List.getD, h1]
  rw [ev, eb, lkS, if_pos ⟨by omega, by omega⟩, Int.toNat_natCast, ev]
  cases v with
  | none => exact ⟨rfl, h2⟩
  | some l => exact ⟨rfl, ok.has2 _ _ l hv rfl⟩
theorem mk_base {n : Nat} {S : Ids} (ok : IdOk n S) : (mkTo S n).base = lkL S n := by
  have ob := ok.b; have oo := ok.o
  obtain ⟨m1, _⟩ := mk_len S n
  apply List.ext_getElem?
  intro j
  by_cases c : j < n
  · rw [(mk_get ob oo n (Nat.le_refl _) j c).1, if_pos c, (lk_get ok c).1]
    simp [lkL, c]
  · rw [List.getElem?_eq_none (by omega), List.getElem?_eq_none (by simp [lkL]; omega)]
theorem opT_kind (n k ep : Int) : (opT n k ep).1 = 1 ∨ (opT n k ep).1 = 2 ∨ (opT n k ep).1 = 3 := by
  unfold opT
  split
  · exact .inr (.inr rfl)
  · split
    · exact .inr (.inl rfl)
    · exact .inl rfl
section
variable {n : Nat} {S : Ids} {k b c e : Int} {d : List Int}
theorem do_sq (h : k = 1 ∨ k = 2 ∨ k = 3) : (doS n S k b c e d).sq = S.sq + 1 := by
  unfold doS
  split
  · rfl
  · split
    · rfl
    · rw [if_pos (by omega)]
theorem do_base (h : k = 1 ∨ k = 2) : (doS n S k b c e d).base = S.base := by
  unfold doS
  split
  · rfl
  · rw [if_pos (by omega)]
theorem do_mark (ok : IdOk n S) : (doS n S 3 b c e d).base = lkL S n ∧ (doS n S 3 b c e d).dn = (doS n S 3 b c e d).sq := by
  unfold doS
  rw [if_neg (by decide), if_neg (by decide), if_pos rfl]
  exact ⟨mk_base ok, rfl⟩
theorem do_write (ok : IdOk n S) (h0 : 0 ≤ b) (h1 : b < n) : lkS (doS n S 1 b c e d) b = d := by
  have ob := ok.b; have oo := ok.o
  unfold doS
  rw [if_pos rfl, lkS]
  show (if 0 ≤ b ∧ b < S.base.length then _ else _) = _
  rw [if_pos ⟨h0, by omega⟩]
  have e : (fillS S.over b.toNat (some d) 1).getD b.toNat none = some d := by
    rw [List.getD, fillS_get _ _ _ _ _ (by omega), if_pos (by omega)]; rfl
  simp only [e]
end
theorem stands_law {H : PH} {p0 : Int} {s1 : Sl} {l1 : List Int} (h1 : Ints H s1 l1) : keelsonlaw24_IdealStands p0 s1 H (DoneD H) := by
  have hawake : ∀ H2, Ext H H2 → keelsonlaw24_awake H2 (DoneD H) := fun H2 x2 => awake_spec fun H3 x3 => ⟨rfl, x2.trans x3⟩
  have hl1 := h1.lenI
  refine mJoin_intro (mIf_intro (fun _ => mJoin_intro (mIf_pos rfl (mIf_pos rfl (hawake H (.refl H))))) (fun c0 => ?_))
  refine mJoin_intro (mIf_intro (fun _ => mIf_pos rfl (hawake H (.refl H))) (fun c1 => mIf_intro (fun _ => hawake H (.refl H)) (fun c2 => ?_)))
  have hp1 : 1 ≤ p0 := by simp at c0; omega
  have hp2 : p0 ≤ 64 := by simp at c1; omega
  have hl : l1.length ≤ 60 := by simp at c2; omega
  obtain ⟨n, rfl⟩ := Int.eq_ofNat_of_zero_le (show 0 ≤ p0 by omega)
  refine new_spec (n := n) (R := []) (Stars.start H) ⟨by omega, by omega⟩ fun a B H1 xB h2 => mIf_neg rfl ?_
  have ok0 : IdOk n (newS n) := newS_ok ⟨by omega, by omega⟩
  have h2' : IdS H1 B a (newS n) [vecO Sl.v Sl.nil [], vecO Sl.v Sl.nil []] := by
    obtain ⟨sb, so, lb, lo, fb, fo, h⟩ := h2
    exact ⟨sb, so, lb, lo, fb, fo, h.nilv.nilv⟩
  refine mLoop_count n (fun k st Hk => st.2.2 = (k : Int) ∧ ∃ B' lw ll, Ext H B' ∧ Fo B' lw (List.replicate k zer) ∧ Fo B' ll (List.replicate k zer) ∧ IdS Hk B' a (newS n) [vecO Sl.v st.1 lw, vecO Sl.v st.2.1 ll]) ⟨rfl, B, [], [], xB, ⟨rfl, fun i s x h => by simp at h⟩, ⟨rfl, fun i s x h => by simp at h⟩, h2'⟩ ?_
  clear h2 h2' xB
  clear B
  rintro k ⟨qw, ql, st⟩ H2 again hk ⟨e, B, lw, ll, xB, fw, fl, h2⟩ hag
  simp only at e h2
  subst e
  have ew := fw.len; have el := fl.len
  rw [List.length_replicate] at ew el
  refine mIf_intro (fun c => ?_) (fun c => ?_)
  · have hkn : k < n := by simpa using c
    obtain ⟨sb, so, lb, lo, fb, fo, h⟩ := h2
    refine mJoin_intro ⟨⟨by decide, by decide, by decide⟩, ⟨by decide, by decide, by decide⟩, F_zero h fun z B3 H3 x3 hz h3 => ?_⟩
    refine S_new1 (enc := Sl.v) (x := z) h3 fun q1 H4 h4 x4 => S_app (enc := Sl.v) (l := lw) (ys := [z]) h4 4 rfl (h4.list 6 rfl) cvSl rfl (by simp; omega) fun q2 H5 h5 => ?_
    have h5' : Stars H5 (baseO B3 :: (idO a sb so lb lo (newS n) ++ [vecO Sl.v q2 (lw ++ [z]), vecO Sl.v ql ll])) := h5.pick [0, 1, 2, 3, 4, 5] (by decide) rfl (by simp [idO])
    refine F_zero h5' fun z2 B6 H6 x6 hz2 h6 => ?_
    refine S_new1 (enc := Sl.v) (x := z2) h6 fun q3 H7 h7 x7 => S_app (enc := Sl.v) (l := ll) (ys := [z2]) h7 5 rfl (h7.list 6 rfl) cvSl rfl (by simp; omega) fun q4 H8 h8 => ?_
    have h8' : Stars H8 (baseO B6 :: (idO a sb so lb lo (newS n) ++ [vecO Sl.v q2 (lw ++ [z]), vecO Sl.v q4 (ll ++ [z2])])) := h8.pick [0, 1, 2, 3, 4, 5] (by decide) rfl (by simp [idO])
    rw [wrap_succ (by omega)]
    have xx := x3.trans x6
    refine hag hkn _ _ ⟨rfl, B6, lw ++ [z], ll ++ [z2], xB.trans xx, ?_, ?_, sb, so, lb, lo, fb.ext xx, fo.ext xx, h8'⟩
    · rw [List.replicate_succ']; exact (fw.ext xx).app (x := zer) ⟨List.length_replicate, hz.ext x6⟩
    · rw [List.replicate_succ']; exact (fl.ext xx).app (x := zer) ⟨List.length_replicate, hz2⟩
  have hkn : k = n := by simp at c; omega
  subst hkn
  clear hag again c
  obtain ⟨sb, so, lb, lo, fb, fo, h⟩ := h2
  refine F_vec (L := idO a sb so lb lo (newS k) ++ [vecO Sl.v qw lw]) (H' := H2) (by simpa using h) fun B3 x3 hql h3 => ?_
  refine F_vec (L := idO a sb so lb lo (newS k)) (H' := H2) (by simpa using h3) fun B4 x4 hqw h4 => ?_
  have x34 := x3.trans x4
  have lk0 : lkL (newS k) k = List.replicate k zer := by
    rw [← mk_base ok0]
    apply List.ext_getElem?
    intro j
    by_cases c : j < k
    · rw [(mk_get ok0.b ok0.o k (Nat.le_refl _) j c).1, if_pos c]
      have e1 : (newS k).over.getD j none = none := by show (List.replicate k (none : Bk)).getD j none = none; rw [List.getD, List.getElem?_replicate]; split <;> rfl
      have e2 : (newS k).base.getD j none = zer := by show (List.replicate k zer).getD j none = zer; rw [List.getD, List.getElem?_replicate, if_pos c]; rfl
      rw [e1, e2, List.getElem?_replicate, if_pos c]; rfl
    · rw [List.getElem?_eq_none (by rw [(mk_len _ _).1, ok0.b]; omega), List.getElem?_eq_none (by simp; omega)]
  refine mLoop_count l1.length (fun i st Hk => st.2.2 = (i : Int) ∧ ∃ B' S lw ll, Ext H B' ∧ IdOk k S ∧ Sm i S ∧ S.sq = i ∧ ListAt Sl.v B' st.1 lw ∧ Fo B' lw S.base ∧ ListAt Sl.v B' st.2.1 ll ∧ Fo B' ll (lkL S k) ∧ IdS Hk B' a S [])
    ⟨rfl, B4, newS k, lw, ll, xB.trans x34, ok0, newS_sm k, rfl, hqw, fw.ext x34, hql.ext x4, by rw [lk0]; exact fl.ext x34, sb, so, lb, lo, fb.ext x34, fo.ext x34, by simpa using h4⟩ ?_
  clear h fb fo h3 h4 hql hqw x34 fw fl xB x3 x4 ew el lk0 ok0
  clear sb so lb lo lw ll B3 B4 B qw ql
  rintro i ⟨qw, ql, st⟩ H3 again hi ⟨e, B, S, lw, ll, xB, ok, sm, hsq, hqw, fw, hql, fl, h3⟩ hag
  simp only at e hqw hql
  subst e
  have hx : ∀ {H' B'} {S' : Ids} {R'}, IdS H' B' a S' R' → Ext B B' → Ext H H' := fun h x => xB.trans (x.trans h.ext)
  have ob := ok.b
  refine mIf_intro (fun c => ?_) (fun _ => ?_)
  rotate_left
  · -- forgotten
    refine forget_spec h3 fun H4 h4 => ?_
    have okf := fgS_ok ok
    have ew := fw.len
    refine mLoop_count k (fun j st Hk => st = (j : Int) ∧ ∃ B', Ext B B' ∧ IdS Hk B' a (fgS S) []) ⟨rfl, B, .refl B, h4⟩ ?_
    clear h4 hag again
    rintro j st H5 again hj ⟨rfl, B5, x5, h5⟩ hag
    refine mIf_intro (fun c => ?_) (fun _ => ?_)
    · have hjk : j < k := by simpa using c
      refine idx_ld3 ((hqw.ext x5).ext h5.ext) (by omega) (by omega) fun ad x hxw hcell => look_spec h5 okf fun B6 H6 y x6 hy h6 => ?_
      rw [Int.toNat_natCast] at hxw
      refine ⟨hcell H6 lw x (((hqw.ext x5).ext x6).ext h6.ext) (by rw [Int.toNat_natCast]; exact hxw), ?_⟩
      obtain ⟨g1, g2⟩ := rd_get ok hjk
      have hb := ((fw.ext (x5.trans x6)).at' j _ _ hxw g1).2
      have e : lkS (fgS S) j = rdS S j := by
        have e1 : (fgS S).over.getD j none = none := by show (List.replicate S.over.length (none : Bk)).getD j none = none; rw [List.getD, List.getElem?_replicate]; split <;> rfl
        rw [lkS, Int.toNat_natCast, e1]
        show (if 0 ≤ (j : Int) ∧ (j : Int) < S.base.length then rdS S j else []) = rdS S j
        rw [if_pos ⟨by omega, by omega⟩]
      refine equal_spec (hy.ext h6.ext) (hb.ext h6.ext) (by rw [e, g2]; decide) ?_
      rw [decide_eq_true e]
      refine mIf_neg rfl ?_
      rw [wrap_succ (by omega)]
      exact hag hjk _ _ ⟨rfl, B6, x5.trans x6, h6⟩
    · refine seq_spec h5 (done_spec h5 (mJoin_intro (mIf_pos ?_ (hawake H5 (hx h5 x5)))))
      show (S.dn == S.dn) = true
      simp
  have hil : i < l1.length := by simp at c; omega
  refine mJoin_cut (fun s Hk => ∃ B' x sl, Ext B B' ∧ Bytes B' sl (opD x i) ∧ RowAt B' s (opRow (opT k x S.ep) sl) ∧ IdS Hk B' a S []) ?_ ?_
  rotate_left
  · intro j182 hj
    refine idx_ld3 (i := (i : Int)) (h1.ext (hx h3 (.refl B))) (by omega) (by omega) fun ad x hx1 hcell => epoch_spec h3 ⟨hcell H3 l1 x (h1.ext (hx h3 (.refl B))) hx1, ?_⟩
    obtain ⟨sb, so, lb, lo, fb, fo, h⟩ := h3
    obtain ⟨⟨e1, e2⟩, _⟩ := sm
    refine op_spec h (by omega) (by omega) e1 (by omega) fun B4 H4 sl x4 hsl h4 => S_row h4 fun ar H5 h5 x5 => ?_
    refine S_stLast (L := idO a sb so lb lo S ++ []) h5 rfl rfl fun H6 h6 => ?_
    obtain ⟨B6, x6, r6, h7⟩ := Stars.freeze (L := idO a sb so lb lo S ++ []) (O := rowO ar (opRow (opT k x S.ep) sl)) h6
    exact hj _ _ ⟨B6, x, sl, x4.trans x6, hsl.ext x6, r6, IdS.up fb fo (x4.trans x6) h7⟩
  rintro ar H4 ⟨B4, x, sl, x4, hsl, r4, h4⟩
  clear h3
  refine ⟨((opT k x S.ep).1, (opT k x S.ep).2.1, (opT k x S.ep).2.2.1, (opT k x S.ep).2.2.2, sl), (r4.ext h4.ext).all rfl, ?_⟩
  have hmay := op_may (n := k) (k := x) (i := i) (ep := S.ep) (by omega)
  have hkind := opT_kind k x S.ep
  have hda : (opT k x S.ep).1 = 1 → (0 ≤ (opT k x S.ep).2.1 ∧ (opT k x S.ep).2.1 < k) := fun h => by
    have := may_cases hmay
    omega
  refine do_spec h4 ok sm (by omega) hsl fun B5 H5 x5 h5 => ?_
  simp only at h5 ⊢
  rw [if_pos hmay] at h5
  rw [hmay]
  have ok5 := doS_ok (d := opD x i) ok hmay
  have sm5 := doS_sm (d := opD x i) sm hmay
  have sq5 := do_sq (n := k) (S := S) (b := (opT k x S.ep).2.1) (c := (opT k x S.ep).2.2.1) (e := (opT k x S.ep).2.2.2) (d := opD x i) hkind
  have w5 : (opT k x S.ep).1 = 1 → lkS (doS k S (opT k x S.ep).1 (opT k x S.ep).2.1 (opT k x S.ep).2.2.1 (opT k x S.ep).2.2.2 (opD x i)) (opT k x S.ep).2.1 = opD x i := fun h => by
    rw [h]; exact do_write ok (hda h).1 (hda h).2
  have mb5 : (opT k x S.ep).1 = 3 → (doS k S (opT k x S.ep).1 (opT k x S.ep).2.1 (opT k x S.ep).2.2.1 (opT k x S.ep).2.2.2 (opD x i)).base = lkL S k ∧ (doS k S (opT k x S.ep).1 (opT k x S.ep).2.1 (opT k x S.ep).2.2.1 (opT k x S.ep).2.2.2 (opD x i)).dn = (doS k S (opT k x S.ep).1 (opT k x S.ep).2.1 (opT k x S.ep).2.2.1 (opT k x S.ep).2.2.2 (opD x i)).sq := fun h => by
    rw [h]; exact do_mark ok
  have nb5 : ¬ (opT k x S.ep).1 = 3 → (doS k S (opT k x S.ep).1 (opT k x S.ep).2.1 (opT k x S.ep).2.2.1 (opT k x S.ep).2.2.2 (opD x i)).base = S.base := fun h => do_base (by omega)
  generalize doS k S (opT k x S.ep).1 (opT k x S.ep).2.1 (opT k x S.ep).2.2.1 (opT k x S.ep).2.2.2 (opD x i) = S5 at h5 ok5 sm5 sq5 w5 mb5 nb5
  generalize opT k x S.ep = t at r4 hkind hda w5 mb5 nb5 hmay sq5
  have r5 := r4.ext x5
  refine mIf_neg rfl (ld_row (x := t.1) (r5.ext h5.ext) rfl ?_)
  refine mJoin_cut (fun s Hk => Hk = H5 ∧ ∃ lx, ListAt Sl.v B5 s lx ∧ Fo B5 lx S5.base) ?_ ?_
  rotate_left
  · intro j193 hj
    refine mIf_intro (fun c => hj _ _ ⟨rfl, ll, hql.ext (x4.trans x5), ?_⟩) (fun c => hj _ _ ⟨rfl, lw, hqw.ext (x4.trans x5), ?_⟩)
    · rw [(mb5 (by simpa using c)).1]; exact fl.ext (x4.trans x5)
    · rw [nb5 (by simpa using c)]; exact fw.ext (x4.trans x5)
  rintro qx H6 ⟨rfl, lx, hqx, fx⟩
  have ob5 := ok5.b
  have hh5 : IdS H6 B5 a S5 [vecO Sl.v Sl.nil []] := by
    obtain ⟨sb, so, lb, lo, fb, fo, h⟩ := h5
    exact ⟨sb, so, lb, lo, fb, fo, h.nilv⟩
  refine mLoop_count k (fun j st Hk => st.2 = (j : Int) ∧ ∃ B' ll, Ext B5 B' ∧ Fo B' ll (lkL S5 j) ∧ IdS Hk B' a S5 [vecO Sl.v st.1 ll]) ⟨rfl, B5, [], .refl B5, ⟨rfl, fun i s x h => by simp at h⟩, hh5⟩ ?_
  clear hh5
  rintro j ⟨qn, st⟩ H7 again2 hj ⟨e, B7, ln, x7, fn, h7⟩ hag2
  simp only at e h7
  subst e
  have en := fn.len
  rw [show (lkL S5 j).length = j by simp [lkL]] at en
  have r7 := r5.ext x7
  refine mIf_intro (fun c => ?_) (fun c => ?_)
  · have hjk : j < k := by simpa using c
    refine look_spec h7 ok5 fun B8 H8 y x8 hy h8 => ?_
    have elx := fx.len
    have hqx8 := hqx.ext (x7.trans x8)
    refine idx_ld3 (hqx8.ext h8.ext) (by omega) (by omega) fun ad xs hxs hcell => read_spec h8 ok5 fun B9 H9 y2 x9 hy2 h9 => ?_
    rw [Int.toNat_natCast] at hxs
    refine ⟨hcell H9 lx xs ((hqx8.ext x9).ext h9.ext) (by rw [Int.toNat_natCast]; exact hxs), ?_⟩
    obtain ⟨g1, g2⟩ := rd_get ok5 hjk
    obtain ⟨g3, g4⟩ := lk_get ok5 hjk
    have hb := ((fx.ext (x7.trans (x8.trans x9))).at' j _ _ hxs g1).2
    refine equal_spec (hy2.ext h9.ext) (hb.ext h9.ext) (by rw [g2]; decide) ?_
    rw [decide_eq_true rfl]
    have hylen := (hy.ext x9).lenI
    have r9 := r7.ext (x8.trans x9)
    refine mJoin_intro (mIf_neg rfl ?_)
    have e64 : ((y.len : Int) != 64) = false := by rw [hylen, g4]; rfl
    rw [e64]
    refine mIf_neg rfl (ld_row (x := t.1) (r9.ext h9.ext) rfl ?_)
    refine mJoin_cut (fun s Hk => s = decide (t.1 = 1 ∧ t.2.1 = j) ∧ Hk = H9) ?_ ?_
    rotate_left
    · intro j222 hj
      refine mIf_intro (fun c => ld_row (x := t.2.1) (r9.ext h9.ext) rfl (hj _ _ ⟨?_, rfl⟩)) (fun c => hj _ _ ⟨?_, rfl⟩)
      · have c' : t.1 = 1 := by simpa using c
        simp [c', Bool.beq_eq_decide_eq]
      · have c' : ¬ t.1 = 1 := by simpa using c
        rw [decide_eq_false (fun h => c' h.1)]
    rintro _ H9 ⟨rfl, rfl⟩
    refine mJoin_cut (fun s Hk => s = false ∧ Hk = H9) ?_ ?_
    rotate_left
    · intro j227 hj
      refine mIf_intro (fun c => ld_row (x := sl) (r9.ext h9.ext) rfl ?_) (fun c => hj _ _ ⟨rfl, rfl⟩)
      have c' : t.1 = 1 ∧ t.2.1 = j := by simpa using c
      have e := w5 c'.1
      rw [c'.2] at e
      refine equal_spec ((hy.ext x9).ext h9.ext) ((hsl.ext (x5.trans (x7.trans (x8.trans x9)))).ext h9.ext) (by rw [g4]; decide) ?_
      rw [decide_eq_true e]
      exact hj _ _ ⟨rfl, rfl⟩
    rintro _ H9 ⟨rfl, rfl⟩
    refine mIf_neg rfl ?_
    obtain ⟨sb, so, lb, lo, fb, fo, h⟩ := h9
    refine S_new1 (enc := Sl.v) (x := y) h fun q1 H10 h10 _ => S_app (enc := Sl.v) (l := ln) (ys := [y]) h10 4 rfl (h10.list 5 rfl) cvSl rfl (by simp; omega) fun q2 H11 h11 => ?_
    rw [wrap_succ (by omega)]
    refine hag2 hjk _ _ ⟨rfl, B9, ln ++ [y], x7.trans (x8.trans x9), ?_, sb, so, lb, lo, fb, fo, h11.pick [0, 1, 2, 3, 4] (by decide) rfl (by simp [idO])⟩
    rw [lkL_succ]
    exact (fn.ext (x8.trans x9)).app (x := some _) ⟨g4, hy.ext x9⟩
  have hjk : j = k := by simp at c; omega
  subst hjk
  obtain ⟨sb, so, lb, lo, fb, fo, h⟩ := h7
  refine F_vec (L := idO a sb so lb lo S5) (H' := H7) (by simpa using h) fun B8 x8 hqn h8 => ?_
  have h8' : IdS H7 B8 a S5 [] := ⟨sb, so, lb, lo, fb.ext x8, fo.ext x8, by simpa using h8⟩
  clear h h8 fb fo
  have r8 := r7.ext x8
  refine ld_row (x := t.1) (r8.ext h8'.ext) rfl ?_
  refine mJoin_cut (fun s Hk => s = false ∧ Hk = H7) ?_ ?_
  rotate_left
  · intro j246 hj
    refine mIf_intro (fun c => done_spec h8' (seq_spec h8' (hj _ _ ⟨?_, rfl⟩))) (fun c => hj _ _ ⟨rfl, rfl⟩)
    rw [(mb5 (by simpa using c)).2]; simp
  rintro _ H7 ⟨rfl, rfl⟩
  rw [wrap_succ (by omega)]
  refine mJoin_intro (mIf_neg rfl (seq_spec h8' ?_))
  have e : decide (S5.sq < ((i + 1 : Nat) : Int)) = false := by rw [sq5, hsq]; simp
  rw [e]
  refine mIf_neg rfl (hag hil _ _ ⟨rfl, B8, S5, lx, ln, xB.trans (x4.trans (x5.trans (x7.trans x8))), ok5, ?_, by rw [sq5, hsq]; push_cast; rfl, hqx.ext (x7.trans x8), fx.ext (x7.trans x8), hqn, fn.ext x8, h8'⟩)
  have : ((i + 1 : Nat) : Int) = i + 1 := by push_cast; rfl
  rw [this]; exact sm5
end Go.Proofs.Ytfjpapddfdhhlaa

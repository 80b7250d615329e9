/- ideal: the contracts of the device without a disk. -/
import Derived.Test.YtfjpapddfdhhlaaIdlA
set_option linter.unusedVariables false
set_option linter.unusedSimpArgs false
namespace Go.Proofs.Ytfjpapddfdhhlaa
open Go Go.Kx
theorem and_ld {H : PH} {α : Type} {enc : α → Value} {addr : Addr} {y : Bool} (f : α → Bool) (v : α) {k : Bool → PH → Prop} (hc : cellAt H addr = some (enc v)) (hk : k (y && f v) H) : mJoin k fun j => mIf y (mLd enc H addr fun x => j (f x) H) (j false H) := by
  cases y with
  | true => exact mIf_pos rfl ⟨v, hc, hk⟩
  | false => exact mIf_neg rfl hk
theorem clone1 {H B : PH} {L : List Ob} {s : Sl} {l : List Int} {K : Sl → PH → Prop} (h : Stars H (baseO B :: L)) (hx : Bytes H s l) (hl : l.length ≤ 65536) (hK : ∀ r B' H', Ext B B' → Bytes B' r l → Stars H' (baseO B' :: L) → K r H') : slices_Clone_Slbyte_byte s H K := F_clone (K := K) h hx hl hK
theorem clone2 {H B : PH} {L : List Ob} {s : Sl} {l : List Int} {K : Sl → PH → Prop} (h : Stars H (baseO B :: L)) (hx : Bytes H s l) (hl : l.length ≤ 65536) (hK : ∀ r B' H', Ext B B' → Bytes B' r l → Stars H' (baseO B' :: L) → K r H') : slices_Clone_ideal_block_byte s H K := F_clone (K := K) h hx hl hK
theorem Fo.fill {B : PH} {ls : List Sl} {lx : List Bk} (h : Fo B ls lx) {s : Sl} {x : Bk} (hx : BkAt B s x) (b : Nat) : ∀ m, Fo B (fillS ls b s m) (fillS lx b x m)
  | 0 => h
  | m + 1 => (h.fill hx b m).set hx _
section
variable {H B : PH} {R : List Ob} {a : Addr} {S : Ids} {n : Nat} {K : Int}
theorem IdS.up {B' : PH} {sb so : Sl} {lb lo : List Sl} (fb : Fo B lb S.base) (fo : Fo B lo S.over) (x : Ext B B') (h : Stars H (baseO B' :: (idO a sb so lb lo S ++ R))) : IdS H B' a S R := ⟨sb, so, lb, lo, fb.ext x, fo.ext x, h⟩
theorem has_spec {b k : Int} {Q : Bool → PH → Prop} (h : IdS H B a S R) (ok : IdOk n S) (hQ : Q (hasS n b k) H) : ideal_Ideal_has (some a) b k H Q := by
  obtain ⟨sb, so, lb, lo, fb, fo, h⟩ := h
  have hl : (sb.len : Int) = n := by rw [(h.list (enc := Sl.v) 2 rfl).lenI, fb.len, ok.b]
  have hr : RowAt H a (idRow sb so S) := h.get 1 rfl
  have hn := ok.le
  have no : ¬ (1 ≤ k ∧ k ≤ n ∧ 0 ≤ b ∧ b ≤ n - k) → Q false H := fun hh => by rw [hasS, decide_eq_false hh] at hQ; exact hQ
  refine mJoin_intro (mIf_pos rfl (mJoin_intro (mIf_intro (fun c => nil_some (ld_row (x := sb) hr rfl ?_)) (fun c => mJoin_intro (mIf_neg rfl (mJoin_intro (mIf_neg rfl (no ?_))))))))
  · rw [hl]
    refine mJoin_intro (mIf_intro (fun c1 => mJoin_intro (mIf_intro (fun c2 => nil_some (ld_row (x := sb) hr rfl ?_)) (fun c2 => no ?_))) (fun c1 => mJoin_intro (mIf_neg rfl (no ?_))))
    · have k1 : 1 ≤ k := by simpa using c
      have k2 : k ≤ n := by simpa using c1
      have k3 : 0 ≤ b := by simpa using c2
      rw [hl, wrap64_id (by omega) (by omega)]
      have e : decide (b ≤ (n : Int) - k) = hasS n b k := decide_eq_decide.2 ⟨fun h => ⟨k1, k2, k3, h⟩, fun h => h.2.2.2⟩
      rw [e]; exact hQ
    · simp at c2; omega
    · simp at c1; omega
  · simp at c; omega
theorem may_spec {o : Int × Int × Int × Int × Sl} {d : List Int} {Q : Bool → PH → Prop} (h : IdS H B a S R) (ok : IdOk n S) (sm : Sm K S) (hK : K < 2 ^ 40) (hd : Bytes H o.2.2.2.2 d)
    (hQ : ∀ B' H', Ext B B' → IdS H' B' a S R → Q (mayS n S.ep o.1 o.2.1 o.2.2.1 o.2.2.2.1 d.length) H') : ideal_Ideal_may (some a) o H Q := by
  obtain ⟨sb, so, lb, lo, fb, fo, h⟩ := h
  obtain ⟨k, b, c, e, s⟩ := o
  simp only at hd hQ
  have hdl := hd.lenI
  refine F_row h fun a1 B1 H1 x1 r1 h1 => ?_
  have hs1 := IdS.up fb fo x1 h1
  have rr := r1.ext h1.base
  have hQ := hQ B1 H1 x1 hs1
  have hr : RowAt H1 a (idRow sb so S) := h1.get 1 rfl
  refine ld_row (x := k) rr rfl ?_
  refine mJoin_cut (fun s Hk => s = decide (k = 1 ∨ k = 5) ∧ Hk = H1) ?_ ?_
  rotate_left
  · intro j hj
    refine mIf_intro (fun c => hj _ _ ⟨?_, rfl⟩) (fun c => hj _ _ ⟨?_, rfl⟩)
    · rw [c, decide_eq_true (.inl (by simpa using c))]
    · have c' : ¬ k = 1 := by simpa using c
      simp [c', Bool.beq_eq_decide_eq]
  rintro _ H1 ⟨rfl, rfl⟩
  refine mIf_intro (fun c1 => ?_) (fun c1 => ?_)
  · have c1' : k = 1 ∨ k = 5 := by simpa using c1
    rw [mayS, if_pos c1'] at hQ
    refine ld_row (x := b) rr rfl (has_spec hs1 ok ?_)
    refine and_ld (fun x => x == 0) c (rr.cell rfl) (and_ld (fun x => x == 0) e (rr.cell rfl) (and_ld (fun x => (x.len : Int) == 64) s (rr.cell rfl) ?_))
    rw [hdl]; exact hQ
  have c1' : ¬ (k = 1 ∨ k = 5) := by simpa using c1
  rw [mayS, if_neg c1'] at hQ
  refine mJoin_cut (fun s Hk => s = decide (k = 2 ∨ k = 6) ∧ Hk = H1) ?_ ?_
  rotate_left
  · intro j hj
    refine mIf_intro (fun c => hj _ _ ⟨?_, rfl⟩) (fun c => hj _ _ ⟨?_, rfl⟩)
    · rw [c, decide_eq_true (.inl (by simpa using c))]
    · have c' : ¬ k = 2 := by simpa using c
      simp [c', Bool.beq_eq_decide_eq]
  rintro _ H1 ⟨rfl, rfl⟩
  refine mIf_intro (fun c2 => ?_) (fun c2 => ?_)
  · have c2' : k = 2 ∨ k = 6 := by simpa using c2
    rw [if_pos c2'] at hQ
    refine ld_row (x := b) rr rfl (ld_row (x := c) rr rfl (has_spec hs1 ok ?_))
    refine and_ld (fun x => x == 0) e (rr.cell rfl) (and_ld (fun x => (x.len : Int) == 0) s (rr.cell rfl) ?_)
    rw [hdl]; exact hQ
  have c2' : ¬ (k = 2 ∨ k = 6) := by simpa using c2
  rw [if_neg c2'] at hQ
  refine mIf_intro (fun c3 => ?_) (fun c3 => ?_)
  · have c3' : k = 3 := by simpa using c3
    rw [if_pos c3'] at hQ
    obtain ⟨⟨g1, g2⟩, _⟩ := sm
    refine mJoin_intro (mIf_pos rfl (ld_row (x := e) rr rfl (nil_some (ld_row (x := S.ep) hr rfl ?_))))
    rw [wrap64_id (x := S.ep + 1) (by omega) (by omega)]
    refine and_ld (fun x => x == 0) b (rr.cell rfl) (and_ld (fun x => x == 0) c (rr.cell rfl) (and_ld (fun x => (x.len : Int) == 0) s (rr.cell rfl) ?_))
    rw [hdl]; exact hQ
  · have c3' : ¬ k = 3 := by simpa using c3
    rw [if_neg c3'] at hQ
    exact hQ
theorem mark_spec {e : Int} {Q : PH → Prop} {sb so : Sl} {lb lo : List Sl} (fb : Fo B lb S.base) (fo : Fo B lo S.over) (h : Stars H (baseO B :: (idO a sb so lb lo S ++ R))) (ok : IdOk n S) (sm : Sm K S) (hK : K < 2 ^ 40)
    (hQ : ∀ lb lo H', Fo B lb (mkTo S n).base → Fo B lo (mkTo S n).over → Stars H' (baseO B :: (idO a sb so lb lo { mkTo S n with ep := e, sq := S.sq + 1, dn := S.sq + 1 } ++ R)) → Q H') : ideal_Ideal_mark (some a) e H Q := by
  have hn := ok.le
  have hl : (so.len : Int) = n := by rw [(h.list (enc := Sl.v) 3 rfl).lenI, fo.len, ok.o]
  have hr : RowAt H a (idRow sb so S) := h.get 1 rfl
  refine nil_some (ld_row (x := so) hr rfl ?_)
  rw [hl]
  refine mLoop_count n (fun k st Hk => st = (k : Int) ∧ ∃ lb lo, Fo B lb (mkTo S k).base ∧ Fo B lo (mkTo S k).over ∧ Stars Hk (baseO B :: (idO a sb so lb lo (mkTo S k) ++ R))) ⟨rfl, lb, lo, fb, fo, h⟩ ?_
  clear h hr fb fo
  rintro k st H1 again hk ⟨rfl, lb, lo, fb, fo, h1⟩ hag
  obtain ⟨m1, m2, m3, m4, m5⟩ := mk_len S k
  have ob := ok.b; have oo := ok.o
  have hr : RowAt H1 a (idRow sb so (mkTo S k)) := h1.get 1 rfl
  have eb := fb.len; have eo := fo.len
  refine mIf_intro (fun c => ?_) (fun c => ?_)
  · have hkn : k < n := by simpa using c
    refine mJoin_intro (idx_ld (h1.list (enc := Sl.v) 3 rfl) (by omega) (by omega) fun x hx => ?_)
    rw [Int.toNat_natCast] at hx
    obtain ⟨s', v, hs', hv, hbk⟩ := fo.get (i := k) (by omega)
    rw [hx] at hs'; cases hs'
    have hv' : (mkTo S k).over.getD k none = v := by simp [List.getD, hv]
    rw [hbk.isNone]
    have ag : ∀ H', (∃ lb lo, Fo B lb (mkTo S (k + 1)).base ∧ Fo B lo (mkTo S (k + 1)).over ∧ Stars H' (baseO B :: (idO a sb so lb lo (mkTo S (k + 1)) ++ R))) → again (IntKind.wrap .i64 ((k : Int) + 1)) H' := fun H' h' => by
      rw [wrap_succ (by omega)]; exact hag hkn _ _ ⟨rfl, h'⟩
    refine mIf_intro (fun c1 => ?_) (fun c1 => ?_)
    · have c1' : v.isNone = false := by simpa using c1
      refine nil_some (ld_row (x := sb) hr rfl (nil_some (ld_row (x := so) hr rfl ?_)))
      refine S_put (enc := Sl.v) (x := x) h1 2 rfl (by omega) (by omega) rfl fun H2 h2 => S_put (enc := Sl.v) (x := Sl.nil) h2 3 rfl (by omega) (by omega) rfl fun H3 h3 => ag H3 ?_
      rw [mkTo, hv', if_neg (by rw [c1']; decide)]
      exact ⟨_, _, fb.set hbk k, fo.set (x := none) rfl k, h3⟩
    · have c1' : v.isNone = true := by simpa using c1
      refine ag H1 ?_
      rw [mkTo, hv', if_pos c1']
      exact ⟨_, _, fb, fo, h1⟩
  · have hkn : k = n := by simp at c; omega
    subst hkn
    obtain ⟨_, ⟨g1, g2⟩, _⟩ := sm
    refine nil_some (ld_row (x := (mkTo S k).sq) hr rfl (nil_some ?_))
    rw [m4, wrap64_id (x := S.sq + 1) (by omega) (by omega)]
    refine S_st h1 1 rfl (by simp [idRow]) rfl fun H2 h2 => nil_some (S_st h2 1 rfl (by simp [idRow]) rfl fun H3 h3 => nil_some (S_ld (x := S.sq + 1) h3 1 rfl rfl (nil_some (S_st h3 1 rfl (by simp [idRow]) rfl fun H4 h4 => hQ lb lo H4 fb fo h4))))
theorem fill_loop {L : List Ob} {s x : Sl} {ls : List Sl} {b : Int} {m : Nat} {a1 : Addr} {cs : List Value} {Q : PH → Prop} (i : Nat) (h : Stars H (baseO B :: L)) (hi : L[i]? = some (vecO Sl.v s ls)) (r1 : RowAt B a1 cs) (hb : cs[1]? = some (.int .i64 b)) (h0 : 0 ≤ b) (h1 : b + m ≤ ls.length) (hl : ls.length ≤ 64)
    (hQ : ∀ H', Stars H' (baseO B :: L.set i (vecO Sl.v s (fillS ls b.toNat x m))) → Q H') :
    mLoop (fun (s31 : Int) (H34 : PH) (again32 : Int → PH → Prop) => mIf (decide (s31 < (m : Int))) (mLd (.int .i64) H34 (a1.add 1) fun x36 => mIdx s 1 (IntKind.wrap .i64 (x36 + s31)) fun a38 => mSt H34 a38 ([Sl.v x]) fun H40 => again32 (IntKind.wrap .i64 (s31 + 1)) H40) (Q H34)) 0 H := by
  have hlt := (List.getElem?_eq_some_iff.1 hi).1
  have es : L.set i (vecO Sl.v s (fillS ls b.toNat x 0)) = L := by
    apply List.ext_getElem?
    intro j
    by_cases e : i = j
    · subst e; rw [List.getElem?_set_self hlt, hi]; rfl
    · rw [List.getElem?_set_ne e]
  refine mLoop_count m (fun k st Hk => st = (k : Int) ∧ Stars Hk (baseO B :: L.set i (vecO Sl.v s (fillS ls b.toNat x k)))) ⟨rfl, by rw [es]; exact h⟩ ?_
  rintro k st H2 again hk ⟨rfl, h2⟩ hag
  refine mIf_intro (fun c => ?_) (fun c => ?_)
  · have hkm : k < m := by have := of_decide_eq_true c; omega
    refine ld_row (x := b) (r1.ext h2.base) hb ?_
    rw [wrap64_id (x := b + (k : Int)) (by omega) (by omega), wrap_succ (by omega)]
    have hfl := fillS_len ls b.toNat x k
    refine S_put (enc := Sl.v) (x := x) h2 (i + 1) (by rw [List.getElem?_cons_succ, List.getElem?_set_self hlt]) (by omega) (by omega) rfl fun H3 h3 => hag hkm _ _ ⟨rfl, ?_⟩
    rw [List.set_cons_succ, List.set_set] at h3
    have e : (b + (k : Int)).toNat = b.toNat + k := by omega
    rw [e] at h3
    exact h3
  · have hkm : k = m := by have := of_decide_eq_false c; omega
    subst hkm
    exact hQ H2 h2
theorem blocks_spec {L : List Ob} {o : Int × Int × Int × Int × Sl} {p : Option Addr} {Q : Int → PH → Prop} (h : Stars H (baseO B :: L)) (hQ : ∀ B' H', Ext B B' → Stars H' (baseO B' :: L) → Q (if o.1 = 1 ∨ o.1 = 5 then 1 else o.2.2.1) H') : ideal_Ideal_blocks p o H Q := by
  refine F_row h fun a1 B1 H1 x1 r1 h1 => ?_
  have rr := r1.ext h1.base
  have hQ := hQ B1 H1 x1 h1
  refine ld_row (x := o.1) rr rfl (mJoin_intro (mIf_intro (fun c => mIf_pos rfl ?_) (fun c => ld_row (x := o.1) rr rfl (mIf_intro (fun c2 => ?_) (fun c2 => ld_row (x := o.2.2.1) rr rfl ?_)))))
  · rw [if_pos (.inl (by simpa using c))] at hQ; exact hQ
  · rw [if_pos (.inr (by simpa using c2))] at hQ; exact hQ
  · rw [if_neg (fun h => h.elim (by simpa using c) (by simpa using c2))] at hQ; exact hQ
end
end Go.Proofs.Ytfjpapddfdhhlaa

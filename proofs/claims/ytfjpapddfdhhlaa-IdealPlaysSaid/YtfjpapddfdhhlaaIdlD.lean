/- ideal: Read, Look, Forget, New; awake. -/
import Derived.Test.YtfjpapddfdhhlaaIdlC
set_option linter.unusedVariables false
set_option linter.unusedSimpArgs false
namespace Go.Proofs.Ytfjpapddfdhhlaa
open Go Go.Kx
theorem unb {H : PH} {L N : List Ob} (h : Stars H (L ++ [allO N])) : Stars H (L ++ N) := by
  have pN : Stars H N := h.all L.length (allO N) (by simp)
  have cases_ : ∀ (j : Nat) (A : Ob), (L ++ N)[j]? = some A → (j < L.length ∧ L[j]? = some A) ∨ (L.length ≤ j ∧ N[j - L.length]? = some A) := fun j A hj => by
    by_cases e : j < L.length
    · rw [List.getElem?_append_left e] at hj; exact .inl ⟨e, hj⟩
    · rw [List.getElem?_append_right (by omega)] at hj; exact .inr ⟨by omega, hj⟩
  have key : ∀ (i j : Nat) (A B : Ob), L[i]? = some A → N[j]? = some B → Dj A B := fun i j A B hi hj c hc hf => by
    have hlt := (List.getElem?_eq_some_iff.1 hi).1
    exact h.dj i L.length A (allO N) (by rw [List.getElem?_append_left hlt]; exact hi) (by simp) (by omega) c hc ⟨j, B, hj, hf⟩
  refine ⟨fun j A hj => ?_, fun i j A B hi hj hne => ?_⟩
  · rcases cases_ j A hj with ⟨e, hj⟩ | ⟨_, hj⟩
    · exact h.all j A (by rw [List.getElem?_append_left e]; exact hj)
    · exact pN.all _ A hj
  · rcases cases_ i A hi with ⟨e1, hi⟩ | ⟨e1, hi⟩ <;> rcases cases_ j B hj with ⟨e2, hj⟩ | ⟨e2, hj⟩
    · exact h.dj i j A B (by rw [List.getElem?_append_left e1]; exact hi) (by rw [List.getElem?_append_left e2]; exact hj) hne
    · exact key i _ A B hi hj
    · exact (key j _ B A hj hi).symm
    · exact pN.dj _ _ A B hi hj (by omega)
def fgS (S : Ids) : Ids := { S with over := List.replicate S.over.length none, sq := S.dn }
def newS (n : Nat) : Ids := ⟨List.replicate n zer, List.replicate n none, 0, 0, 0⟩
theorem newS_ok {n : Nat} (h : 1 ≤ n ∧ n ≤ 64) : IdOk n (newS n) := by
  refine ⟨List.length_replicate, List.length_replicate, h.1, h.2, fun i x hx => ?_, fun i x l hx hl => ?_⟩
  · replace hx : (List.replicate n zer)[i]? = some x := hx
    rw [List.getElem?_replicate] at hx
    split at hx
    · cases hx; exact ⟨_, rfl, List.length_replicate⟩
    · cases hx
  · replace hx : (List.replicate n (none : Bk))[i]? = some x := hx
    rw [List.getElem?_replicate] at hx
    split at hx
    · cases hx; cases hl
    · cases hx
theorem newS_sm (n : Nat) : Sm 0 (newS n) := ⟨⟨Int.le_refl _, Int.le_refl _⟩, ⟨Int.le_refl _, Int.le_refl _⟩, ⟨Int.le_refl _, Int.le_refl _⟩⟩
theorem fgS_ok {n : Nat} {S : Ids} (ok : IdOk n S) : IdOk n (fgS S) := by
  refine ⟨ok.b, (List.length_replicate).trans ok.o, ok.pos, ok.le, ok.has, fun i x l hx hl => ?_⟩
  replace hx : (List.replicate S.over.length (none : Bk))[i]? = some x := hx
  rw [List.getElem?_replicate] at hx
  split at hx
  · cases hx; cases hl
  · cases hx
theorem fgS_sm {K : Int} {S : Ids} (sm : Sm K S) : Sm K (fgS S) := ⟨sm.1, sm.2.2, sm.2.2⟩
section
variable {H B : PH} {R : List Ob} {a : Addr} {S : Ids} {n : Nat} {K : Int}
theorem read_spec {b : Int} {Q : Sl → PH → Prop} (h : IdS H B a S R) (ok : IdOk n S) (hQ : ∀ B' H' y, Ext B B' → Bytes B' y (rdS S b) → IdS H' B' a S R → Q y H') : ideal_Ideal_Read (some a) b H Q := by
  have ob := ok.b
  refine has_spec h ok (mIf_intro (fun c => ?_) (fun c => ?_))
  · have hno : ¬ (0 ≤ b ∧ b < S.base.length) := by
      simp [hasS] at c
      have := ok.pos; omega
    have e : rdS S b = [] := by rw [rdS, if_neg hno]
    exact hQ B H Sl.nil (.refl B) (by rw [e]; exact .nil) h
  · have hin : 0 ≤ b ∧ b < S.base.length := by
      simp [hasS] at c
      omega
    obtain ⟨sb, so, lb, lo, fb, fo, h⟩ := h
    have hr : RowAt H a (idRow sb so S) := h.get 1 rfl
    have eb := fb.len
    refine nil_some (ld_row (x := sb) hr rfl (idx_ld (h.list (enc := Sl.v) 2 rfl) hin.1 (by omega) fun x hx => ?_))
    obtain ⟨s', v, hs', hv, hbk⟩ := fb.get (i := b.toNat) (by omega)
    rw [hx] at hs'; cases hs'
    obtain ⟨l, rfl, hl⟩ := ok.has _ _ hv
    have e : rdS S b = l := by rw [rdS, if_pos hin]; simp [List.getD, hv]
    refine clone2 h (hbk.2.ext h.base) (by omega) fun y B' H' x' hy h' => hQ B' H' y x' (by rw [e]; exact hy) (IdS.up fb fo x' h')
theorem look_spec {b : Int} {Q : Sl → PH → Prop} (h : IdS H B a S R) (ok : IdOk n S) (hQ : ∀ B' H' y, Ext B B' → Bytes B' y (lkS S b) → IdS H' B' a S R → Q y H') : ideal_Ideal_Look (some a) b H Q := by
  have ob := ok.b; have oo := ok.o
  refine has_spec h ok ?_
  have hh := h
  obtain ⟨sb, so, lb, lo, fb, fo, h⟩ := h
  have hr : RowAt H a (idRow sb so S) := h.get 1 rfl
  have eo := fo.len
  have back : lkS S b = rdS S b → ideal_Ideal_Read (some a) b H fun y20 H19 => Q y20 H19 := fun e => by
    rw [e] at hQ; exact read_spec hh ok hQ
  refine mJoin_intro (mIf_intro (fun c => ?_) (fun c => mIf_neg rfl (back ?_)))
  · have hin : 0 ≤ b ∧ b < S.base.length := by
      simp [hasS] at c
      omega
    refine nil_some (ld_row (x := so) hr rfl (idx_ld (h.list (enc := Sl.v) 3 rfl) hin.1 (by omega) fun x hx => ?_))
    obtain ⟨s', v, hs', hv, hbk⟩ := fo.get (i := b.toNat) (by omega)
    rw [hx] at hs'; cases hs'
    rw [hbk.isNone]
    have hv' : S.over.getD b.toNat none = v := by simp [List.getD, hv]
    cases v with
    | none =>
      refine mIf_neg rfl (back ?_)
      rw [lkS, if_pos hin, hv']
    | some l =>
      have e : lkS S b = l := by rw [lkS, if_pos hin, hv']
      have hl := ok.has2 _ _ l hv rfl
      refine mIf_pos rfl (nil_some (ld_row (x := so) hr rfl (idx_ld (h.list (enc := Sl.v) 3 rfl) hin.1 (by omega) fun x' hx' => ?_)))
      rw [hx] at hx'; cases hx'
      refine clone2 h (hbk.2.ext h.base) (by omega) fun y B' H' x' hy h' => hQ B' H' y x' (by rw [e]; exact hy) (IdS.up fb fo x' h')
  · have hno : ¬ (0 ≤ b ∧ b < S.base.length) := by
      simp [hasS] at c
      have := ok.pos; omega
    rw [lkS, if_neg hno, rdS, if_neg hno]
theorem epoch_spec {Q : Int → PH → Prop} (h : IdS H B a S R) (hQ : Q S.ep H) : ideal_Ideal_Epoch (some a) H Q := by
  obtain ⟨sb, so, lb, lo, fb, fo, h⟩ := h
  exact mIf_neg rfl (nil_some (ld_row (x := S.ep) (h.get 1 rfl : RowAt H a (idRow sb so S)) rfl hQ))
theorem seq_spec {Q : Int → PH → Prop} (h : IdS H B a S R) (hQ : Q S.sq H) : ideal_Ideal_Seq (some a) H Q := by
  obtain ⟨sb, so, lb, lo, fb, fo, h⟩ := h
  exact mIf_neg rfl (nil_some (ld_row (x := S.sq) (h.get 1 rfl : RowAt H a (idRow sb so S)) rfl hQ))
theorem done_spec {Q : Int → PH → Prop} (h : IdS H B a S R) (hQ : Q S.dn H) : ideal_Ideal_Done (some a) H Q := by
  obtain ⟨sb, so, lb, lo, fb, fo, h⟩ := h
  exact mIf_neg rfl (nil_some (ld_row (x := S.dn) (h.get 1 rfl : RowAt H a (idRow sb so S)) rfl hQ))
theorem Fo.nones {m k : Nat} (e : m = k) : Fo B (List.replicate m Sl.nil) (List.replicate k none) := by
  subst e
  refine ⟨by simp, fun i s x hs hx => ?_⟩
  rw [List.getElem?_replicate] at hs hx
  split at hs
  · rename_i hi
    rw [if_pos hi] at hx
    cases hs; cases hx; rfl
  · cases hs
theorem forget_spec {Q : PH → Prop} (h : IdS H B a S R) (hQ : ∀ H', IdS H' B a (fgS S) R → Q H') : ideal_Ideal_Forget (some a) H Q := by
  obtain ⟨sb, so, lb, lo, fb, fo, h⟩ := h
  have hr : RowAt H a (idRow sb so S) := h.get 1 rfl
  refine mIf_pos rfl (nil_some (ld_row (x := so) hr rfl (S_clear (enc := Sl.v) (x := Sl.nil) h 3 rfl fun H2 h2 => nil_some (S_ld (x := S.dn) h2 1 rfl rfl (nil_some (S_st h2 1 rfl (by simp [idRow]) rfl fun H3 h3 => hQ H3 ⟨sb, so, lb, List.replicate lo.length Sl.nil, fb, Fo.nones fo.len, h3⟩))))))
theorem new_none {Q : Option Addr → PH → Prop} {p : Int} (hg : ¬ (1 ≤ p ∧ p ≤ 64)) (hQ : Q none H) : ideal_New p H Q := by
  refine mJoin_intro (mIf_intro (fun c => mIf_pos rfl hQ) (fun c => mIf_pos ?_ hQ))
  simp at c ⊢; omega
theorem new_spec {Q : Option Addr → PH → Prop} {R : List Ob} (h : Stars H (baseO B :: R)) (hg : 1 ≤ n ∧ n ≤ 64) (hQ : ∀ a B' H', Ext B B' → IdS H' B' a (newS n) R → Q (some a) H') : ideal_New n H Q := by
  refine mJoin_intro (mIf_neg (by simp; omega) (mIf_neg (by simp; omega) ?_))
  refine mJoin_intro ⟨⟨by omega, Int.le_refl _, by omega⟩, ⟨by omega, Int.le_refl _, by omega⟩, ?_⟩
  have hb : Stars H ([baseO B] ++ [allO R]) := Stars.bundle (L := [baseO B]) h
  refine S_mkSI (enc := Sl.v) (x := Sl.nil) hb fun q H1 h1 x1 => S_mkSI (enc := Sl.v) (x := Sl.nil) h1 fun q' H2 h2 x2 => S_row h2 fun a H3 h3 x3 => ?_
  have h4 : Stars H3 (baseO B :: (idO a q q' (List.replicate n Sl.nil) (List.replicate n Sl.nil) ⟨fillS (List.replicate n none) 0 zer 0, List.replicate n none, 0, 0, 0⟩ ++ [allO R])) := by
    rw [Int.toNat_natCast] at h3
    exact h3.pick [0, 4, 2, 3, 1] (by decide) rfl (by simp)
  have hql : (q.len : Int) = n := by rw [(h4.list (enc := Sl.v) 2 rfl).lenI]; simp
  refine nil_some (S_ld (x := q) h4 1 rfl rfl ?_)
  rw [hql]
  refine mLoop_count n (fun k st Hk => st = (k : Int) ∧ ∃ B' lb, Ext B B' ∧ Fo B' lb (fillS (List.replicate n none) 0 zer k) ∧ Stars Hk (baseO B' :: (idO a q q' lb (List.replicate n Sl.nil) ⟨fillS (List.replicate n none) 0 zer k, List.replicate n none, 0, 0, 0⟩ ++ [allO R]))) ⟨rfl, B, _, .refl B, Fo.nones rfl, h4⟩ ?_
  clear h1 h2 h3 h4 hb
  rintro k st H4 again hk ⟨rfl, B1, lb, xB, fb, h4⟩ hag
  have eb := fb.len
  rw [fillS_len, List.length_replicate] at eb
  refine mIf_intro (fun c => ?_) (fun c => ?_)
  · have hkn : k < n := by simpa using c
    refine nil_some (S_ld (x := q) h4 1 rfl rfl ⟨⟨by decide, by decide, by decide⟩, F_zero h4 fun z B2 H5 x5 hz h5 => ⟨?_, ?_⟩⟩)
    · exact (h5.get 1 rfl : RowAt H5 a _).cell rfl
    · refine S_put (enc := Sl.v) (x := z) h5 2 rfl (by omega) (by omega) rfl fun H6 h6 => ?_
      rw [wrap_succ (by omega)]
      refine hag hkn _ _ ⟨rfl, B2, lb.set k z, xB.trans x5, ?_, h6⟩
      have := (fb.ext x5).set (s := z) (x := zer) ⟨List.length_replicate, hz⟩ k
      rw [fillS, Nat.zero_add]; exact this
  · have hkn : k = n := by simp at c; omega
    subst hkn
    have e : fillS (List.replicate k (none : Bk)) 0 zer k = List.replicate k zer := by
      apply List.ext_getElem?
      intro j
      rw [fillS_get _ _ _ _ _ (by simp), List.getElem?_replicate, List.getElem?_replicate]
      by_cases c : j < k
      · rw [if_pos (by omega), if_pos c]
      · rw [if_neg (by omega), if_neg c, if_neg c]
    rw [e] at fb h4
    refine hQ a B1 H4 xB ⟨q, q', lb, _, fb, Fo.nones rfl, ?_⟩
    have := unb (L := baseO B1 :: idO a q q' lb (List.replicate k Sl.nil) (newS k)) (N := R) h4
    exact this
end
end Go.Proofs.Ytfjpapddfdhhlaa

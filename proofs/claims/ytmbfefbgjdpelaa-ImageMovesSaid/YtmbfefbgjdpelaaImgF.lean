/- image: New, All, Trim and Drop, Commit, Forget, Pending. -/
import Derived.Test.YtmbfefbgjdpelaaImgE
set_option linter.unusedVariables false
set_option linter.unusedSimpArgs false
namespace Go.Proofs.Ytmbfefbgjdpelaa
open Go Go.Kx PInt

theorem unb {H : PH} {L N : List Ob} (h : Stars H (L ++ [allO N])) : Stars H (L ++ N) := by
  have pN : Stars H N := h.all L.length (allO N) (by simp)
  have cases_ : ∀ (j : Nat) (A : Ob), (L ++ N)[j]? = some A → (j < L.length ∧ L[j]? = some A) ∨ (L.length ≤ j ∧ N[j - L.length]? = some A) := fun j A hj => by
    by_cases e : j < L.length
    · rw [List.getElem?_append_left e] at hj; exact .inl ⟨e, hj⟩
    · rw [List.getElem?_append_right (by omega)] at hj; exact .inr ⟨by omega, hj⟩
  have key : ∀ (i j : Nat) (A B : Ob), L[i]? = some A → N[j]? = some B → Dj A B := fun i j A B hi hj c hc hf => by
    have hlt := (List.getElem?_eq_some_iff.1 hi).1
    exact h.dj i L.length A (allO N) (by rw [List.getElem?_append_left hlt]; exact hi) (by simp) (by omega) c hc ⟨j, B, hj, hf⟩
  refine ⟨fun j A hj => ?_, fun i j A B hi hj hne => ?_⟩
  · rcases cases_ j A hj with ⟨e, hj⟩ | ⟨_, hj⟩
    · exact h.all j A (by rw [List.getElem?_append_left e]; exact hj)
    · exact pN.all _ A hj
  · rcases cases_ i A hi with ⟨e1, hi⟩ | ⟨e1, hi⟩ <;> rcases cases_ j B hj with ⟨e2, hj⟩ | ⟨e2, hj⟩
    · exact h.dj i j A B (by rw [List.getElem?_append_left e1]; exact hi) (by rw [List.getElem?_append_left e2]; exact hj) hne
    · exact key i _ A B hi hj
    · exact (key j _ B A hj hi).symm
    · exact pN.dj _ _ A B hi hj (by omega)
section
variable {H : PH} {a : Addr} {s t : Sl} {per : Int}
theorem allc_spec {γ : Type} {c0 : Addr} {Y : List Value → γ → PH → (Nat → γ → PH → Prop) → Prop} {g0 : γ} {Q : Nat → γ → PH → Prop} (N : Nat) (ls : Nat → List Int) (I : Nat → γ → PH → Prop) (hd : N ≤ 65536) (hls : ∀ k, (ls k).length = N)
    (hI : ∀ k g H, I k g H → cellAt H c0 = some (.pointer (some a)) ∧ RowAt H a (pgRow s t per) ∧ ListAt E H s (ls k)) (h0 : I 0 g0 H)
    (step : ∀ k g H K x, k < N → I k g H → (ls k)[k]? = some x → (∀ g' H', I (k + 1) g' H' → K 0 g' H') → (∀ j g' H', j ≠ 0 → Q j g' H' → K j g' H') → Y [.int .i64 k, .int .i64 x] g H K)
    (fin : ∀ g H, I N g H → Q 0 g H) : paged_Paged_int_All_c1 c0 Y g0 H Q := by
  obtain ⟨e0, r0, l0⟩ := hI _ _ _ h0
  have hN := hls 0
  refine ⟨some a, e0, len_spec r0 l0.lenI ?_⟩
  rw [hN]
  refine mLoop_count N (fun k st Hk => ∃ g, st = ((k : Int), (0, g)) ∧ I k g Hk) ⟨g0, rfl, h0⟩ ?_
  rintro k st H1 again hk ⟨g, rfl, hi⟩ hag
  obtain ⟨e1, r1, l1⟩ := hI _ _ _ hi
  have hNk := hls k
  refine mIf_intro (fun c => ?_) (fun c => ?_)
  · have hkl : k < N := by simpa using c
    have ew := wrap_succ (k := k) (by omega)
    refine ⟨some a, e1, nil_some (ld_row (x := s) r1 rfl (idx_ld l1 (by omega) (by omega) fun x hx => ⟨rfl, ?_⟩))⟩
    rw [Int.toNat_natCast] at hx
    refine step k g H1 _ x hkl hi hx (fun g' H' hi' => mIf_neg rfl ?_) (fun j g' H' hj hq => mIf_pos (by simpa using hj) hq)
    rw [ew]; exact hag hkl _ _ ⟨g', rfl, hi'⟩
  · have : k = N := by simp at c; omega
    subst this
    exact fin g H1 hi
end
/-- A new image. -/
def im0 (n : Nat) : Im := ⟨List.replicate n 0, List.replicate (pgs n 15).toNat false, List.replicate n (-1), List.replicate (pgs n 15).toNat false⟩
theorem im0_ok {n : Nat} (h : 1 ≤ n ∧ n ≤ 64) : ImOk n (im0 n) := by
  have g : 1 ≤ (n : Int) ∧ (n : Int) ≤ 65536 ∧ 1 ≤ (15 : Int) ∧ (15 : Int) ≤ 65536 := ⟨by omega, by omega, by decide, by decide⟩
  exact ⟨pgok_new g (v := 0), pgok_new g (v := -1), by simp [im0], by simp [im0], h.2, h.1⟩
theorem inew_froz {H B : PH} {L : List Ob} {n : Nat} {Q : Option Addr → PH → Prop} (h : Stars H (baseO B :: L)) (hg : 1 ≤ n ∧ n ≤ 64)
    (hQ : ∀ B' a b o s0 t0 s1 t1 H', Ext B B' → ImR B' a b o s0 t0 s1 t1 → Stars H' (baseO B' :: (L ++ imO s0 t0 s1 t1 (im0 n))) → Q (some a) H') : image_New n H Q := by
  have g : 1 ≤ (n : Int) ∧ (n : Int) ≤ 65536 ∧ 1 ≤ (15 : Int) ∧ (15 : Int) ≤ 65536 := ⟨by omega, by omega, by decide, by decide⟩
  refine mJoin_intro (mIf_neg (by simp; omega) (mIf_neg (by simp; omega) (new_froz h g fun B1 b s0 t0 H1 x1 r1 h1 => new_froz h1 g fun B2 o s1 t1 H2 x2 r2 h2 => S_row h2 fun a H3 h3 x3 => ?_)))
  obtain ⟨B', x, r, h4⟩ := (show Stars H3 (baseO B2 :: (L ++ imO s0 t0 s1 t1 (im0 n)) ++ [rowO a [.pointer (some b), .pointer (some o)]]) by simpa [imO, im0] using h3).freeze
  exact hQ B' a b o s0 t0 s1 t1 H3 (x1.trans (x2.trans x)) ⟨r, r1.ext (x2.trans x), r2.ext x⟩ h4
theorem inew_none {H : PH} {n : Int} {Q : Option Addr → PH → Prop} (hg : ¬ (1 ≤ n ∧ n ≤ 64)) (hQ : Q none H) : image_New n H Q := by
  refine mJoin_intro (mIf_intro (fun c => mIf_pos rfl hQ) (fun c => mIf_pos ?_ hQ))
  simp at c ⊢; omega
def gl (z : Int) : List Int := if 0 < z then [z] else []
theorem gl_len (z : Int) : (gl z).length ≤ 1 := by unfold gl; split <;> simp
def nnTo (over : Bool) (b : Int) (M : Im) : Nat → Im × List Int
  | 0 => (M, [])
  | i + 1 => ((nnTo over b M i).1.put over (b + i) 0, (nnTo over b M i).2 ++ gl (gone (getG ((nnTo over b M i).1.tab over) (b + i)) 0))
def cmStep (r : Im × List Int) (i : Nat) : Im × List Int :=
  if getG r.1.l1 i = -1 then r else ((r.1.put false i (getG r.1.l1 i)).put true i (-1), r.2 ++ gl (gone (getG r.1.l0 i) (getG r.1.l1 i)))
def cmTo (M : Im) : Nat → Im × List Int
  | 0 => (M, [])
  | i + 1 => cmStep (cmTo M i) i
def fgTo (M : Im) : Nat → Im × List Int
  | 0 => (M, [])
  | i + 1 => ((fgTo M i).1.put true i (-1), (fgTo M i).2 ++ gl (gone (getG (fgTo M i).1.l1 i) (-1)))
theorem nn_ok {over : Bool} {b : Int} {M : Im} {n : Nat} (ok : ImOk n M) : ∀ i, ImOk n (nnTo over b M i).1 ∧ (nnTo over b M i).2.length ≤ i
  | 0 => ⟨ok, Nat.le_refl _⟩
  | i + 1 => ⟨(nn_ok ok i).1.put over (b + i) 0, by
    have h1 := (nn_ok (over := over) (b := b) ok i).2
    have h2 := gl_len (gone (getG ((nnTo over b M i).1.tab over) (b + i)) 0)
    rw [nnTo, List.length_append]; omega⟩
theorem cm_ok {M : Im} {n : Nat} (ok : ImOk n M) : ∀ i, ImOk n (cmTo M i).1 ∧ (cmTo M i).2.length ≤ i
  | 0 => ⟨ok, Nat.le_refl _⟩
  | i + 1 => by
    obtain ⟨h1, h2⟩ := cm_ok ok i
    rw [cmTo, cmStep]
    split
    · exact ⟨h1, by omega⟩
    · have h3 := gl_len (gone (getG (cmTo M i).1.l0 i) (getG (cmTo M i).1.l1 i))
      exact ⟨(h1.put false i (getG (cmTo M i).1.l1 i)).put true i (-1), by rw [List.length_append]; omega⟩
theorem fg_ok {M : Im} {n : Nat} (ok : ImOk n M) : ∀ i, ImOk n (fgTo M i).1 ∧ (fgTo M i).2.length ≤ i
  | 0 => ⟨ok, Nat.le_refl _⟩
  | i + 1 => ⟨(fg_ok ok i).1.put true i (-1), by
    have h1 := (fg_ok ok i).2
    have h2 := gl_len (gone (getG (fgTo M i).1.l1 i) (-1))
    rw [fgTo, List.length_append]; omega⟩
section
variable {H B : PH} {R : List Ob} {a b o : Addr} {s0 t0 s1 t1 : Sl} {M : Im} {n : Nat}
/-- None is put at some. -/
theorem none_spec {over : Bool} {x : Int} {k : Nat} {Q : Sl → Bool → PH → Prop} (h : Stars H (baseO B :: (imO s0 t0 s1 t1 M ++ R))) (r : ImR B a b o s0 t0 s1 t1) (ok : ImOk n M) (hx : 0 ≤ x) (hk : 1 ≤ k) (hxk : x + k ≤ n)
    (hQ : ∀ H' g, Stars H' (baseO B :: (imO s0 t0 s1 t1 (nnTo over x M k).1 ++ (vecO E g (nnTo over x M k).2 :: R))) → Q g true H') : image_Image_none (some a) over x k H Q := by
  have hn := ok.n64
  refine has_spec (r.ext h.base) (s0_len h ok) hn ?_
  rw [decide_eq_true (show 1 ≤ (k : Int) ∧ (k : Int) ≤ n ∧ 0 ≤ x ∧ x ≤ n - k from ⟨by omega, by omega, by omega, by omega⟩)]
  refine mIf_neg rfl ?_
  have h1 : Stars H ((baseO B :: imO s0 t0 s1 t1 M) ++ [allO R] ++ [vecO E Sl.nil []]) := (Stars.bundle h).nilv
  have h2 : Stars H (baseO B :: (imO s0 t0 s1 t1 (nnTo over x M 0).1 ++ [vecO E Sl.nil (nnTo over x M 0).2, allO R])) := h1.pick [0, 1, 2, 3, 4, 6, 5] (by decide) rfl (by simp [imO])
  refine mLoop_count k (fun i st Hk => st.2 = (i : Int) ∧ Stars Hk (baseO B :: (imO s0 t0 s1 t1 (nnTo over x M i).1 ++ [vecO E st.1 (nnTo over x M i).2, allO R]))) ⟨rfl, h2⟩ ?_
  clear h1 h2
  rintro i ⟨g, st⟩ H1 again hi ⟨e, h1⟩ hag
  simp only at e h1
  subst e
  obtain ⟨ok1, hl1⟩ := nn_ok (over := over) (b := x) ok i
  refine mIf_intro (fun c => ?_) (fun c => ?_)
  · have hik : i < k := by simpa using c
    refine mJoin_intro (table_spec (r.ext h1.base) ?_)
    rw [wrap64_id (x := x + (i : Int)) (by omega) (by omega)]
    refine put_spec h1 r ok1 fun H2 h2 => ?_
    have again' : ∀ q H3, Stars H3 (baseO B :: (imO s0 t0 s1 t1 (nnTo over x M (i + 1)).1 ++ [vecO E q (nnTo over x M (i + 1)).2, allO R])) → again (q, IntKind.wrap .i64 ((i : Int) + 1)) H3 := fun q H3 h3 => by
      rw [wrap_succ (by omega)]
      exact hag hik _ _ ⟨rfl, h3⟩
    refine mIf_intro (fun c1 => ?_) (fun c1 => ?_)
    · have c1' : 0 < gone (getG ((nnTo over x M i).1.tab over) (x + i)) 0 := by simpa using c1
      refine S_new1 (enc := E) h2 fun q1 H3 h3 x3 => S_app (l := (nnTo over x M i).2) (ys := [gone (getG ((nnTo over x M i).1.tab over) (x + i)) 0]) h3 5 rfl (h3.list 7 rfl) ints_enc rfl (by simp; omega) fun q2 H4 h4 => again' q2 H4 ?_
      have e : (nnTo over x M (i + 1)).2 = (nnTo over x M i).2 ++ [gone (getG ((nnTo over x M i).1.tab over) (x + i)) 0] := by rw [nnTo, gl, if_pos c1']
      rw [e]
      exact h4.pick [0, 1, 2, 3, 4, 5, 6] (by decide) rfl (by simp [imO])
    · have c1' : ¬ 0 < gone (getG ((nnTo over x M i).1.tab over) (x + i)) 0 := by simpa using c1
      refine again' g H2 ?_
      have e : (nnTo over x M (i + 1)).2 = (nnTo over x M i).2 := by rw [nnTo, gl, if_neg c1', List.append_nil]
      rw [e]; exact h2
  · have : i = k := by simp at c; omega
    subst this
    exact hQ H1 g (unb (L := baseO B :: (imO s0 t0 s1 t1 (nnTo over x M i).1 ++ [vecO E g (nnTo over x M i).2])) (by simpa using h1) |> fun h => by simpa using h)
theorem commit_spec {Q : Sl → PH → Prop} (h : Stars H (baseO B :: (imO s0 t0 s1 t1 M ++ R))) (r : ImR B a b o s0 t0 s1 t1) (ok : ImOk n M)
    (hQ : ∀ H' g, Stars H' (baseO B :: (imO s0 t0 s1 t1 (cmTo M n).1 ++ (vecO E g (cmTo M n).2 :: R))) → Q g H') : image_Image_Commit (some a) H Q := by
  have hn := ok.n64
  refine S_row (Stars.bundle (L := baseO B :: imO s0 t0 s1 t1 M) (N := R) h) fun a1 H1 h1 x1 => S_row h1 fun a4 H2 h2 x2 => S_ld1 (x := some a) h2 6 rfl (table_spec (over := true) (r.ext h2.base) (S_row h2 fun c0 H3 h3 x3 => ?_))
  have h4 : Stars H3 (baseO B :: (imO s0 t0 s1 t1 (cmTo M 0).1 ++ [vecO E Sl.nil (cmTo M 0).2, rowO a1 [.pointer (some a)], rowO a4 [Sl.v Sl.nil], rowO c0 [.pointer (some o)], allO R])) := h3.nilv.pick [0, 1, 2, 3, 4, 9, 6, 7, 8, 5] (by decide) rfl (by simp [imO])
  refine paged_Paged_int_All_c1_s _ _ _ _ _ (allc_spec (a := o) (s := s1) (t := t1) (per := 15) n (fun k => (cmTo M k).1.l1)
    (fun k _ Hk => ∃ q, Stars Hk (baseO B :: (imO s0 t0 s1 t1 (cmTo M k).1 ++ [vecO E q (cmTo M k).2, rowO a1 [.pointer (some a)], rowO a4 [Sl.v q], rowO c0 [.pointer (some o)], allO R]))) (by omega) (fun k => (cm_ok ok k).1.n1)
    ?_ ⟨Sl.nil, h4⟩ ?_ ?_)
  · rintro k _ Hk ⟨q, hk⟩
    exact ⟨hk.cell1 8 rfl, (r.ext hk.base).ro, hk.list 3 rfl⟩
  · rintro k _ Hk K x hkn ⟨q, hk⟩ hx hnext _
    obtain ⟨ok1, hl1⟩ := cm_ok ok k
    have hxe : getG (cmTo M k).1.l1 k = x := getG_in (by omega) (by have := ok1.n1; omega) (by rw [Int.toNat_natCast]; exact hx)
    refine ⟨_, _, rfl, mIf_intro (fun c => ?_) (fun c => ?_)⟩
    · have c' : x = -1 := by simpa using c
      have e : cmTo M (k + 1) = cmTo M k := by rw [cmTo, cmStep, if_pos (by rw [hxe, c'])]
      exact hnext () Hk ⟨q, by rw [e]; exact hk⟩
    · have c' : ¬ x = -1 := by simpa using c
      have e : cmTo M (k + 1) = (((cmTo M k).1.put false k x).put true k (-1), (cmTo M k).2 ++ gl (gone (getG (cmTo M k).1.l0 k) x)) := by rw [cmTo, cmStep, if_neg (by rw [hxe]; exact c'), hxe]
      refine S_ld1 (x := some a) hk 6 rfl (nil_some (ld_row (x := some b) (r.ext hk.base).im rfl (put_spec (over := false) hk r ok1 fun H5 h5 => mJoin_intro ?_)))
      have rest : ∀ q' H6, Stars H6 (baseO B :: (imO s0 t0 s1 t1 ((cmTo M k).1.put false k x) ++ [vecO E q' ((cmTo M k).2 ++ gl (gone (getG (cmTo M k).1.l0 k) x)), rowO a1 [.pointer (some a)], rowO a4 [Sl.v q'], rowO c0 [.pointer (some o)], allO R])) →
          mLd .pointer H6 a1 fun x32 => mNil x32 fun a34 => mLd .pointer H6 (a34.add 1) fun x36 => paged_Paged_int_Set x36 k (-1) H6 fun y39 H38 => K 0 () H38 := fun q' H6 h6 => by
        refine S_ld1 (x := some a) h6 6 rfl (nil_some (ld_row (x := some o) (r.ext h6.base).im rfl (set_spec h6 (r.ext h6.base).ro 3 4 rfl rfl (by decide) (ok1.put _ _ _).p1 fun H7 h7 => ?_)))
        exact hnext () H7 ⟨q', by rw [e]; exact h7⟩
      refine mIf_intro (fun c1 => ?_) (fun c1 => ?_)
      · have c1' : 0 < gone (getG (cmTo M k).1.l0 k) x := by simpa [Im.tab] using c1
        refine S_ld1 (x := q) h5 7 rfl (S_new1 (enc := E) h5 fun q1 H6 h6 x6 => S_app (l := (cmTo M k).2) (ys := [gone (getG (cmTo M k).1.l0 k) x]) h6 5 rfl (h6.list 10 rfl) ints_enc rfl (by simp; omega) fun q2 H7 h7 => S_st1 h7 7 rfl rfl fun H8 h8 => rest q2 H8 ?_)
        rw [gl, if_pos c1']
        exact h8.pick [0, 1, 2, 3, 4, 5, 6, 7, 8, 9] (by decide) rfl (by simp [imO])
      · have c1' : ¬ 0 < gone (getG (cmTo M k).1.l0 k) x := by simpa [Im.tab] using c1
        refine rest q H5 ?_
        rw [gl, if_neg c1', List.append_nil]
        exact h5
  · rintro _ Hk ⟨q, hk⟩
    refine S_ld1 (x := q) hk 7 rfl (S_st1 hk 7 rfl rfl fun H5 h5 => S_ld1 (x := q) h5 7 rfl (hQ H5 q ?_))
    have h6 : Stars H5 ((baseO B :: (imO s0 t0 s1 t1 (cmTo M n).1 ++ [vecO E q (cmTo M n).2])) ++ [allO R]) := h5.pick [0, 1, 2, 3, 4, 5, 9] (by decide) rfl (by simp [imO])
    simpa using unb h6
theorem forget_spec {Q : Sl → PH → Prop} (h : Stars H (baseO B :: (imO s0 t0 s1 t1 M ++ R))) (r : ImR B a b o s0 t0 s1 t1) (ok : ImOk n M)
    (hQ : ∀ H' g, Stars H' (baseO B :: (imO s0 t0 s1 t1 (fgTo M n).1 ++ (vecO E g (fgTo M n).2 :: R))) → Q g H') : image_Image_Forget (some a) H Q := by
  have hn := ok.n64
  refine S_row (Stars.bundle (L := baseO B :: imO s0 t0 s1 t1 M) (N := R) h) fun a1 H1 h1 x1 => S_row h1 fun a4 H2 h2 x2 => S_ld1 (x := some a) h2 6 rfl (table_spec (over := true) (r.ext h2.base) (S_row h2 fun c0 H3 h3 x3 => ?_))
  have h4 : Stars H3 (baseO B :: (imO s0 t0 s1 t1 (fgTo M 0).1 ++ [vecO E Sl.nil (fgTo M 0).2, rowO a1 [.pointer (some a)], rowO a4 [Sl.v Sl.nil], rowO c0 [.pointer (some o)], allO R])) := h3.nilv.pick [0, 1, 2, 3, 4, 9, 6, 7, 8, 5] (by decide) rfl (by simp [imO])
  refine paged_Paged_int_All_c1_s _ _ _ _ _ (allc_spec (a := o) (s := s1) (t := t1) (per := 15) n (fun k => (fgTo M k).1.l1)
    (fun k _ Hk => ∃ q, Stars Hk (baseO B :: (imO s0 t0 s1 t1 (fgTo M k).1 ++ [vecO E q (fgTo M k).2, rowO a1 [.pointer (some a)], rowO a4 [Sl.v q], rowO c0 [.pointer (some o)], allO R]))) (by omega) (fun k => (fg_ok ok k).1.n1)
    ?_ ⟨Sl.nil, h4⟩ ?_ ?_)
  · rintro k _ Hk ⟨q, hk⟩
    exact ⟨hk.cell1 8 rfl, (r.ext hk.base).ro, hk.list 3 rfl⟩
  · rintro k _ Hk K x hkn ⟨q, hk⟩ hx hnext _
    obtain ⟨ok1, hl1⟩ := fg_ok ok k
    refine ⟨_, _, rfl, S_ld1 (x := some a) hk 6 rfl (nil_some (ld_row (x := some o) (r.ext hk.base).im rfl (put_spec (over := true) hk r ok1 fun H5 h5 => ?_)))⟩
    refine mIf_intro (fun c1 => ?_) (fun c1 => ?_)
    · have c1' : 0 < gone (getG (fgTo M k).1.l1 k) (-1) := by simpa [Im.tab] using c1
      refine S_ld1 (x := q) h5 7 rfl (S_new1 (enc := E) h5 fun q1 H6 h6 x6 => S_app (l := (fgTo M k).2) (ys := [gone (getG (fgTo M k).1.l1 k) (-1)]) h6 5 rfl (h6.list 10 rfl) ints_enc rfl (by simp; omega) fun q2 H7 h7 => S_st1 h7 7 rfl rfl fun H8 h8 => hnext () H8 ⟨q2, ?_⟩)
      rw [fgTo, gl, if_pos c1']
      exact h8.pick [0, 1, 2, 3, 4, 5, 6, 7, 8, 9] (by decide) rfl (by simp [imO])
    · have c1' : ¬ 0 < gone (getG (fgTo M k).1.l1 k) (-1) := by simpa [Im.tab] using c1
      refine hnext () H5 ⟨q, ?_⟩
      rw [fgTo, gl, if_neg c1', List.append_nil]
      exact h5
  · rintro _ Hk ⟨q, hk⟩
    refine S_ld1 (x := q) hk 7 rfl (S_st1 hk 7 rfl rfl fun H5 h5 => S_ld1 (x := q) h5 7 rfl (hQ H5 q ?_))
    have h6 : Stars H5 ((baseO B :: (imO s0 t0 s1 t1 (fgTo M n).1 ++ [vecO E q (fgTo M n).2])) ++ [allO R]) := h5.pick [0, 1, 2, 3, 4, 5, 9] (by decide) rfl (by simp [imO])
    simpa using unb h6
def pendN (l : List Int) : Nat := l.countP (fun x => x != -1)
theorem pend_spec {Q : Int → PH → Prop} (h : Stars H (baseO B :: (imO s0 t0 s1 t1 M ++ R))) (r : ImR B a b o s0 t0 s1 t1) (ok : ImOk n M) (hQ : ∀ H', Ext H H' → Q (pendN M.l1) H') : image_Image_Pending (some a) H Q := by
  have hn := ok.n64
  have e1 := ok.n1
  have r' := r.ext h.base
  have hl := h.list (enc := E) 3 rfl
  refine S_row (Stars.start H) fun a1 H1 h1 x1 => table_spec (over := true) (r'.ext x1) (S_row h1 fun c0 H3 h3 x3 => ?_)
  refine paged_Paged_int_All_c1_s _ _ _ _ _ (allc_spec (a := o) (s := s1) (t := t1) (per := 15) n (fun _ => M.l1)
    (fun k _ Hk => Stars Hk [baseO H, rowO a1 [.int .i64 (pendN (M.l1.take k))], rowO c0 [.pointer (some o)]]) (by omega) (fun _ => e1)
    ?_ h3 ?_ ?_)
  · rintro k _ Hk hk
    exact ⟨hk.cell1 2 rfl, (r'.ext hk.base).ro, hl.ext hk.base⟩
  · rintro k _ Hk K x hkn hk hx hnext _
    have e2 : M.l1.take (k + 1) = M.l1.take k ++ [x] := by rw [List.take_add_one, hx]; rfl
    have hle : pendN (M.l1.take k) ≤ k := Nat.le_trans List.countP_le_length (by rw [List.length_take]; omega)
    refine ⟨_, _, rfl, mIf_intro (fun c => ?_) (fun c => hnext () Hk ?_)⟩
    · refine S_ld1 (enc := E) (x := (pendN (M.l1.take k) : Int)) hk 1 rfl (S_st1 hk 1 rfl rfl fun H5 h5 => hnext () H5 ?_)
      rw [wrap_succ (by omega)] at h5
      rw [e2, pendN, List.countP_append, List.countP_singleton, if_pos c]
      exact h5
    · rw [e2, pendN, List.countP_append, List.countP_singleton, if_neg (by rw [c]; decide)]
      exact hk
  · rintro _ Hk hk
    rw [List.take_of_length_le (by omega)] at hk
    refine S_ld1 (enc := E) (x := (pendN M.l1 : Int)) hk 1 rfl (S_st1 hk 1 rfl rfl fun H5 h5 => S_ld1 (enc := E) (x := (pendN M.l1 : Int)) h5 1 rfl (hQ H5 h5.base))
end
end Go.Proofs.Ytmbfefbgjdpelaa

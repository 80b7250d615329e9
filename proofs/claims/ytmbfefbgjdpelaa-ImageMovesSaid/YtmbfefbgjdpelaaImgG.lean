/- image: Refs, Dirty, Move; the laws' own functions; awake. -/
import Derived.Test.YtmbfefbgjdpelaaImgF
set_option linter.unusedVariables false
set_option linter.unusedSimpArgs false
namespace Go.Proofs.Ytmbfefbgjdpelaa
open Go Go.Kx PInt

def enc2 (x : Int × Int) : List Value := [.int .i64 x.1, .int .i64 x.2]
theorem len2 (x : Int × Int) : (enc2 x).length = 2 := rfl
theorem cv2 (x : Int × Int) : (enc2 x).all cellV = true := rfl
def rp (i : Nat) (x : Int) : List (Int × Int) := if 0 < x then [((i : Int), x)] else []
def rfTo (l0 l1 : List Int) : Nat → List (Int × Int)
  | 0 => []
  | i + 1 => rfTo l0 l1 i ++ rp i (getG l0 i) ++ rp i (getG l1 i)
theorem rp_len (i : Nat) (x : Int) : (rp i x).length ≤ 1 := by unfold rp; split <;> simp
theorem rf_len (l0 l1 : List Int) : ∀ i, (rfTo l0 l1 i).length ≤ 2 * i
  | 0 => Nat.le_refl _
  | i + 1 => by
    have h1 := rf_len l0 l1 i
    have h2 := rp_len i (getG l0 i)
    have h3 := rp_len i (getG l1 i)
    rw [rfTo, List.length_append, List.length_append]; omega
section
variable {H : PH} {a b o : Addr} {s0 t0 s1 t1 : Sl} {l0 l1 : List Int} {d : List Bool} {n : Nat}
/-- The law's own loop appends one. -/
theorem ref_app {L : List Ob} {a1 a8 : Addr} {q : Sl} {l : List (Int × Int)} {x y : Int} {K : Nat → Unit → PH → Prop} (h : Stars H L) (i j k : Nat) (hi : L[i]? = some (rowO a1 [.int .i64 300])) (hj : L[j]? = some (rowO a8 [Sl.v q])) (hk : L[k]? = some (vecNO enc2 2 q l)) (hjk : k ≠ j) (hl : l.length < 300)
    (hK : ∀ q' H', Stars H' ((L.set k (vecNO enc2 2 q' (l ++ [(x, y)]))).set j (rowO a8 [Sl.v q'])) → K 0 () H') :
    mLd Sl.v H a8 fun x23 => mLd (.int .i64) H a1 fun x25 => mIf (decide (x25 ≤ (x23.len : Int))) (K 1 () H)
      (mLd Sl.v H a8 fun x28 => mNewS H (row [.int .i64 x, .int .i64 y] 42) 1 fun r30 H31 => mApp H31 42 2 16 [.int .i64 0, .int .i64 0] x28 r30 fun r33 H34 => mSt H34 a8 ([Sl.v r33]) fun H35 => K 0 () H35) := by
  have hv : VecN enc2 2 H q l := h.get k hk
  have jl := (List.getElem?_eq_some_iff.1 hj).1
  have kl := (List.getElem?_eq_some_iff.1 hk).1
  refine S_ld1 (x := q) h j hj (S_ld1 (enc := E) (x := (300 : Int)) h i hi (mIf_neg (by rw [hv.len]; simp; omega) (S_ld1 (x := q) h j hj ?_)))
  refine S_new1N (enc := enc2) (sz := 2) (x := (x, y)) h rfl fun q1 H3 h3 x3 => ?_
  have hq1 : VecN enc2 2 H3 q1 [(x, y)] := h3.get (O := vecNO enc2 2 q1 [(x, y)]) L.length (by simp)
  refine S_appN len2 (by decide) (l := l) (ys := [(x, y)]) h3 k (by rw [List.getElem?_append_left kl]; exact hk) ((hq1.listN len2).cells len2 (by decide)) hq1.len cv2 rfl (by simp; omega) fun q2 H4 h4 => ?_
  refine S_st1 (v := Sl.v q2) h4 j (by rw [List.getElem?_set_ne hjk, List.getElem?_append_left jl]; exact hj) rfl fun H5 h5 => hK q2 H5 ?_
  rw [List.set_append_left _ _ kl, List.set_append_left _ _ (by rw [List.length_set]; exact jl)] at h5
  exact h5.init
theorem refs_spec {Q : Sl → PH → Prop} (r : ImR H a b o s0 t0 s1 t1) (g0 : ListAt E H s0 l0) (g1 : ListAt E H s1 l1) (n0 : l0.length = n) (n1 : l1.length = n) (hn : n ≤ 64) (hQ : ∀ q H', Stars H' [baseO H, vecNO enc2 2 q (rfTo l0 l1 n)] → Q q H') : keelsonlaw16_refs (some a) 300 H Q := by
  refine S_row (Stars.start H) fun a1 H1 h1 x1 => S_row h1 fun a4 H2 h2 x2 => ⟨.inr ⟨_, _, _, rfl⟩, mIf_neg rfl (S_row h2 fun a8 H3 h3 x3 => mJoin_intro ?_)⟩
  refine image_Image_Refs_c1_s _ _ _ _ _ (fun yv => S_row (h3.nilN (enc := enc2) (sz := 2)) fun ay H4 h4 x4 => S_ld1 (x := some a) h4 2 rfl (table_spec (over := false) (r.ext h4.base) (S_row h4 fun c0 H5 h5 x5 => ?_)))
  refine paged_Paged_int_All_c1_s _ _ _ _ _ (allc_spec (a := b) (s := s0) (t := t0) (per := 15) n (fun _ => l0)
    (fun k g Hk => g = (0, ()) ∧ ∃ q, Stars Hk [baseO H, rowO a1 [.int .i64 300], rowO a4 [.pointer (some a)], rowO a8 [Sl.v q], vecNO enc2 2 q (rfTo l0 l1 k), rowO ay [yv], rowO c0 [.pointer (some b)]]) (by omega) (fun _ => n0)
    ?_ ⟨rfl, Sl.nil, h5⟩ ?_ ?_)
  · rintro k _ Hk ⟨_, q, hk⟩
    exact ⟨hk.cell1 6 rfl, (r.ext hk.base).rb, g0.ext hk.base⟩
  · rintro k _ Hk K x hkn ⟨rfl, q, hk⟩ hx hnext _
    have hl := rf_len l0 l1 k
    have ex : getG l0 k = x := getG_in (by omega) (by omega) (by rw [Int.toNat_natCast]; exact hx)
    obtain ⟨y, hy⟩ : ∃ y, l1[k]? = some y := ⟨_, List.getElem?_eq_getElem (by omega)⟩
    have ey : getG l1 k = y := getG_in (by omega) (by omega) (by rw [Int.toNat_natCast]; exact hy)
    have e2 : rfTo l0 l1 (k + 1) = rfTo l0 l1 k ++ rp k x ++ rp k y := by rw [rfTo, ex, ey]
    refine ⟨_, _, rfl, S_ld1 (x := some a) hk 2 rfl (nil_some (ld_row (x := some o) (r.ext hk.base).im rfl (get_spec (r.ext hk.base).ro (g1.ext hk.base) (fun y' _ _ hy' => ?_) (fun h => absurd ⟨by omega, by omega⟩ h))))⟩
    rw [Int.toNat_natCast, hy] at hy'; cases hy'
    refine mJoin_cut (fun s Hs => s.1 = false ∧ s.2 = (0, ()) ∧ ∃ q, Stars Hs [baseO H, rowO a1 [.int .i64 300], rowO a4 [.pointer (some a)], rowO a8 [Sl.v q], vecNO enc2 2 q (rfTo l0 l1 k ++ rp k x), rowO ay [yv], rowO c0 [.pointer (some b)]]) ?_ ?_
    · rintro ⟨sb, sg⟩ H6 ⟨e1, e3, q6, h6⟩
      simp only at e1 e3
      subst e1; subst e3
      refine mJoin_cut (fun s Hs => s.1 = false ∧ s.2 = (0, ()) ∧ ∃ q, Stars Hs [baseO H, rowO a1 [.int .i64 300], rowO a4 [.pointer (some a)], rowO a8 [Sl.v q], vecNO enc2 2 q (rfTo l0 l1 (k + 1)), rowO ay [yv], rowO c0 [.pointer (some b)]]) ?_ ?_
      · rintro ⟨sb, sg⟩ H7 ⟨e1, e3, q7, h7⟩
        simp only at e1 e3
        subst e1; subst e3
        exact mIf_neg rfl (hnext _ H7 ⟨rfl, q7, h7⟩)
      · intro j32 hj32
        refine mIf_neg rfl (mJoin_intro (mIf_intro (fun c => ?_) (fun c => ?_)))
        · have c' : 0 < y := by simpa using c
          refine ⟨yv, h6.cell1 5 rfl, rfl, rfl, _, _, rfl, ref_app (x := (k : Int)) (y := y) (K := fun j g H' => j32 (!(j == 0), (j, g)) H') h6 1 3 4 rfl rfl rfl (by decide) ?_ fun q1 H7 h7 => hj32 _ _ ⟨rfl, rfl, q1, ?_⟩⟩
          · have := rp_len k x
            rw [List.length_append]; omega
          · rw [e2, show rp k y = [((k : Int), y)] from if_pos c']; exact h7
        · have c' : ¬ 0 < y := by simpa using c
          refine hj32 _ _ ⟨rfl, rfl, q6, ?_⟩
          rw [e2, show rp k y = [] from if_neg c', List.append_nil]; exact h6
    · intro j27 hj27
      refine mIf_intro (fun c => ?_) (fun c => ?_)
      · have c' : 0 < x := by simpa using c
        refine ⟨yv, hk.cell1 5 rfl, rfl, rfl, _, _, rfl, ref_app (x := (k : Int)) (y := x) (K := fun j g H' => j27 (!(j == 0), (j, g)) H') hk 1 3 4 rfl rfl rfl (by decide) (by omega) fun q1 H7 h7 => hj27 _ _ ⟨rfl, rfl, q1, ?_⟩⟩
        rw [rp, if_pos c']; exact h7
      · have c' : ¬ 0 < x := by simpa using c
        refine hj27 _ _ ⟨rfl, rfl, q, ?_⟩
        rw [rp, if_neg c', List.append_nil]; exact hk
  · rintro _ Hk ⟨rfl, q, hk⟩
    exact mIf_neg rfl (mIf_neg rfl (S_ld1 (x := q) hk 3 rfl (hQ q Hk (hk.pick [0, 4] (by decide) rfl (by simp)))))
theorem refs_nil {most : Int} {Q : Sl → PH → Prop} (hQ : ∀ H', Ext H H' → Q Sl.nil H') : keelsonlaw16_refs none most H Q := by
  refine S_row (Stars.start H) fun a1 H1 h1 x1 => S_row h1 fun a4 H2 h2 x2 => ⟨.inr ⟨_, _, _, rfl⟩, mIf_neg rfl (S_row h2 fun a8 H3 h3 x3 => mJoin_intro ?_)⟩
  refine image_Image_Refs_c1_s _ _ _ _ _ (fun yv => S_row h3 fun ay H4 h4 x4 => S_ld1 (x := (none : Option Addr)) h4 2 rfl (mIf_pos rfl (S_row h4 fun c0 H5 h5 x5 => ?_)))
  refine paged_Paged_int_All_c1_s _ _ _ _ _ ⟨none, h5.cell1 5 rfl, mIf_pos rfl ?_⟩
  refine mLoop_of (fun m st Hk => st = (0, (0, (0, ()))) ∧ Hk = H5) 0 ⟨rfl, rfl⟩ ?_
  rintro m st Hk again ⟨rfl, rfl⟩ _
  exact mIf_neg rfl (mIf_neg rfl (mIf_neg rfl (S_ld1 (x := Sl.nil) h5 3 rfl (hQ _ h5.base))))
theorem dirty_c_spec {over : Bool} {M : Im} {R : List Ob} {B : PH} {most : Int} {Q : Sl → PH → Prop} (h : Stars H (baseO B :: (imO s0 t0 s1 t1 M ++ R))) (r : ImR B a b o s0 t0 s1 t1) (ok : ImOk n M) (hQ : ∀ q H', Stars H' [baseO H, vecO E q ((dirtyL M.d0).take most.toNat)] → Q q H') : keelsonlaw16_dirty (some a) false most H Q := by
  have r' := r.ext h.base
  have ht := h.list (enc := Value.bool) 2 rfl
  refine S_row (Stars.start H) fun a1 H1 h1 x1 => table_spec (over := false) (r'.ext x1) (S_row h1 fun c0 H2 h2 x2 => ⟨.inr ⟨_, _, _, rfl⟩, mIf_neg rfl (S_row h2 fun a8 H3 h3 x3 => mJoin_intro ?_)⟩)
  have h4 := h3.nilv (enc := E)
  have last : ∀ (q : Sl) (l : List Int) (H' : PH), l = (dirtyL M.d0).take most.toNat → Stars H' [baseO H, rowO a1 [.int .i64 most], rowO c0 [.pointer (some b)], rowO a8 [Sl.v q], vecO E q l] → mLd Sl.v H' a8 fun x15 => Q x15 H' := fun q l H' hl h' => by
    subst hl
    exact S_ld1 h' 3 rfl (hQ q H' (h'.pick [0, 4] (by decide) rfl (by simp)))
  refine paged_Paged_int_Dirty_c1_s _ _ _ _ _ (dirty_c1_spec (a := b) (s := s0) (t := t0) (per := 15) (d := M.d0)
    (fun k _ Hk => ∃ q, (dirtyTo M.d0 k).length ≤ most.toNat ∧ Stars Hk [baseO H, rowO a1 [.int .i64 most], rowO c0 [.pointer (some b)], rowO a8 [Sl.v q], vecO E q (dirtyTo M.d0 k)]) ok.p0.few
    ?_ ⟨Sl.nil, by simp [dirtyTo], h4⟩ ?_ ?_ ?_)
  · rintro k _ Hk ⟨q, _, hk⟩
    exact ⟨hk.cell1 2 rfl, (r'.ext hk.base).rb, ht.ext hk.base⟩
  · rintro k _ Hk hkl ⟨q, hb, hk⟩ hf
    exact ⟨q, by rw [dirtyTo_none hf]; exact hb, by rw [dirtyTo_none hf]; exact hk⟩
  · rintro k _ Hk K hkl ⟨q, hb, hk⟩ hf hnext hbrk
    have hfew := ok.p0.few
    have hl1 := (hk.list (enc := E) 4 rfl).lenI
    have hlen := dirtyTo_len M.d0 k
    refine ⟨_, rfl, S_ld1 hk 3 rfl (S_ld1 hk 1 rfl (mIf_intro (fun c => ?_) (fun c => ?_)))⟩
    · have c' : most ≤ (q.len : Int) := by simpa using c
      have e : dirtyTo M.d0 k = (dirtyL M.d0).take most.toNat := by
        obtain ⟨r, hr⟩ := dirtyTo_pre M.d0 k (M.d0.length - k)
        rw [show k + (M.d0.length - k) = M.d0.length by omega] at hr
        rw [dirtyL, hr, List.take_append_of_le_length (by omega), List.take_of_length_le (by omega)]
      exact hbrk 1 () Hk (by decide) (mIf_pos rfl (last q _ Hk e hk))
    · have c' : ¬ most ≤ (q.len : Int) := by simpa using c
      refine S_ld1 hk 3 rfl (S_new1 (enc := E) hk fun q1 H6 h6 x6 => S_app (ys := [(k : Int)]) h6 4 rfl (h6.list 5 rfl) ints_enc rfl (by simp; omega) fun r3 H7 h7 => S_st1 h7 3 rfl rfl fun H8 h8 => ?_)
      refine hnext () H8 ⟨r3, ?_, ?_⟩
      · rw [dirtyTo_some hf, List.length_append, List.length_singleton]; omega
      · rw [dirtyTo_some hf]
        exact h8.pick [0, 1, 2, 3, 4] (by decide) rfl (by simp)
  · rintro _ Hk ⟨q, hb, hk⟩
    refine mIf_neg rfl (last q _ Hk ?_ hk)
    rw [dirtyL, List.take_of_length_le hb]
end
end Go.Proofs.Ytmbfefbgjdpelaa

/- image: Move; awake. -/
import Derived.Test.YtmbfefbgjdpelaaImgG
set_option linter.unusedVariables false
set_option linter.unusedSimpArgs false
namespace Go.Proofs.Ytmbfefbgjdpelaa
open Go Go.Kx PInt
section
variable {H B : PH} {R : List Ob} {a b o : Addr} {s0 t0 s1 t1 : Sl} {M : Im} {n : Nat}
theorem move_spec {x old : Int} {Q : Bool → PH → Prop} (h : Stars H (baseO B :: (imO s0 t0 s1 t1 M ++ R))) (r : ImR B a b o s0 t0 s1 t1) (ok : ImOk n M) (hx : 0 ≤ x ∧ x < n)
    (hno : (old < 1 ∨ (getG M.l0 x ≠ old ∧ getG M.l1 x ≠ old)) → Q false H)
    (hyes : ∀ ov H', 1 ≤ old → getG (M.tab ov) x = old → (ov = true → getG M.l0 x ≠ old) → Stars H' (baseO B :: (imO s0 t0 s1 t1 (M.put ov x 2000) ++ R)) → Q true H') : image_Image_Move (some a) x old 2000 H Q := by
  have hn := ok.n64
  have hp := ok.npos
  have e0 := ok.n0; have e1 := ok.n1
  refine has_spec (r.ext h.base) (s0_len h ok) hn ?_
  rw [decide_eq_true (show 1 ≤ (1 : Int) ∧ (1 : Int) ≤ n ∧ 0 ≤ x ∧ x ≤ n - 1 from ⟨by omega, by omega, by omega, by omega⟩)]
  refine mJoin_intro (mIf_neg rfl ?_)
  by_cases hold : old < 1
  · rw [decide_eq_true hold]
    exact mJoin_intro (mIf_pos rfl (mJoin_intro (mIf_pos rfl (mIf_pos rfl (hno (.inl hold))))))
  rw [decide_eq_false hold]
  refine mJoin_intro (mIf_neg rfl (mJoin_intro (mIf_neg (by decide) (mIf_neg (by decide) (nil_some (ld_row (x := some b) (r.ext h.base).im rfl (nil_some (ld_row (x := some o) (r.ext h.base).im rfl ?_))))))))
  refine mLoop_count 2 (fun i st Hk => st = (i : Int) ∧ Hk = H ∧ (1 ≤ i → getG M.l0 x ≠ old) ∧ (2 ≤ i → getG M.l1 x ≠ old)) ⟨rfl, rfl, fun h => absurd h (by decide), fun h => absurd h (by decide)⟩ ?_
  rintro i st H1 again hi ⟨rfl, rfl, k0, k1⟩ hag
  match i, hi, k0, k1, hag with
  | 0, _, k0, k1, hag =>
    refine mIf_pos rfl ⟨by decide, by decide, some b, rfl, get_spec (r.ext h.base).rb (h.list 1 rfl) (fun y h0 h1 hy => ?_) (fun hn => absurd ⟨hx.1, by omega⟩ hn)⟩
    have ey := getG_in h0 h1 hy
    refine mIf_intro (fun c => ?_) (fun c => ?_)
    · have c' : y = old := by simpa using c
      refine set_spec h (r.ext h.base).rb 1 2 rfl rfl (by decide) ok.p0 fun H2 h2 => ?_
      rw [decide_eq_true ⟨h0, h1⟩]
      exact hyes false H2 (by omega) (ey.trans c') (fun h => by cases h) h2
    · have c' : ¬ y = old := by simpa using c
      exact hag (by decide) _ _ ⟨rfl, rfl, fun _ => by rw [ey]; exact c', fun h => absurd h (by decide)⟩
  | 1, _, k0, k1, hag =>
    refine mIf_pos rfl ⟨by decide, by decide, some o, rfl, get_spec (r.ext h.base).ro (h.list 3 rfl) (fun y h0 h1 hy => ?_) (fun hn => absurd ⟨hx.1, by omega⟩ hn)⟩
    have ey := getG_in h0 h1 hy
    refine mIf_intro (fun c => ?_) (fun c => ?_)
    · have c' : y = old := by simpa using c
      refine set_spec h (r.ext h.base).ro 3 4 rfl rfl (by decide) ok.p1 fun H2 h2 => ?_
      rw [decide_eq_true ⟨h0, h1⟩]
      exact hyes true H2 (by omega) (ey.trans c') (fun _ => k0 (by decide)) h2
    · have c' : ¬ y = old := by simpa using c
      exact hag (by decide) _ _ ⟨rfl, rfl, fun _ => k0 (by decide), fun _ => by rw [ey]; exact c'⟩
  | 2, _, k0, k1, hag => exact mIf_neg rfl (hno (.inr ⟨k0 (by decide), k1 (by decide)⟩))
  | i + 3, hi, _, _, _ => omega
end
def W1 : Im := (im0 20).put true 3 50
def W2 : Im := W1.put true 3 60
def W3 : Im := (cmTo W2 20).1
def W4 : Im := W3.put false 3 70
theorem W_facts : gone (getG ((im0 20).tab true) 3) 50 = 0 ∧ gone (getG (W1.tab true) 3) 60 = 50 ∧ getG W2.l0 3 = 0 ∧ lookV W2 3 = 60 ∧ (cmTo W2 20).2 = [] ∧ getG W3.l0 3 = 60 ∧ gone (getG (W3.tab false) 3) 70 = 60 ∧ pendN W4.l1 = 0 ∧ (dirtyL W4.d0).take 9 = [0] := by
  refine ⟨by decide +kernel, by decide +kernel, by decide +kernel, by decide +kernel, by decide +kernel, by decide +kernel, by decide +kernel, by decide +kernel, by decide +kernel⟩
theorem awake_spec {H : PH} {Q : Bool → PH → Prop} (hQ : ∀ H', Ext H H' → Q true H') : keelsonlaw16_awake H Q := by
  obtain ⟨f1, f2, f3, f4, f5, f6, f7, f8, f9⟩ := W_facts
  refine inew_froz (n := 20) (Stars.start H) (by decide) fun B a b o s0 t0 s1 t1 H1 xB r h1 => mJoin_intro (mIf_neg rfl (inew_none (by decide) (mIf_neg rfl ?_)))
  have h1' : Stars H1 (baseO B :: (imO s0 t0 s1 t1 (im0 20) ++ [])) := h1
  have ok0 : ImOk 20 (im0 20) := im0_ok (by decide)
  refine one_spec h1' r ok0 (by decide) (by decide) fun H2 h2 => ?_
  have ok1 : ImOk 20 W1 := ok0.put true 3 50
  refine one_spec (M := W1) h2 r ok1 (by decide) (by decide) fun H3 h3 => ?_
  have ok2 : ImOk 20 W2 := ok1.put true 3 60
  have h3' : Stars H3 (baseO B :: (imO s0 t0 s1 t1 W2 ++ [])) := h3
  refine ref_spec h3' r (look_spec h3' r ok2 (by decide) (commit_spec h3' r ok2 fun H4 g h4 => ?_))
  have ok3 : ImOk 20 W3 := (cm_ok ok2 20).1
  have h4' : Stars H4 (baseO B :: (imO s0 t0 s1 t1 W3 ++ [vecO E g []])) := by rw [f5] at h4; exact h4
  have hg := (h4'.list (enc := E) 5 rfl).lenI
  refine ref_spec h4' r (one_spec (over := false) h4' r ok3 (by decide) (by decide) fun H5 h5 => ?_)
  have ok4 : ImOk 20 W4 := ok3.put false 3 70
  have h5' : Stars H5 (baseO B :: (imO s0 t0 s1 t1 W4 ++ [vecO E g []])) := h5
  rw [f1, f2, f3, f4, f6, f7]
  refine mJoin_intro (mIf_pos rfl ?_)
  refine mJoin_intro (mIf_pos rfl ?_)
  refine mJoin_intro (mIf_pos rfl ?_)
  refine mJoin_intro (mIf_pos rfl ?_)
  refine mJoin_intro (mIf_pos rfl ?_)
  refine mJoin_intro (mIf_pos rfl ?_)
  refine mJoin_intro (mIf_pos (by rw [hg]; rfl) ?_)
  refine mJoin_intro (mIf_pos rfl ?_)
  refine mJoin_intro (mIf_pos rfl ?_)
  refine mJoin_intro (mIf_pos rfl ?_)
  refine pend_spec h5' r ok4 fun H6 x6 => ?_
  rw [f8]
  have h6 := h5'.ext x6
  refine mJoin_intro (mIf_pos rfl (blocks_spec (r.ext h6.base) (s0_len h6 ok4) (mJoin_intro (mIf_pos rfl ?_))))
  refine dirty_c_spec (over := false) h6 r ok4 fun q H7 h7 => ?_
  have h7' := h6.over h7
  refine S_new1 (enc := E) h7' fun q1 H8 h8 x8 => ints_spec (h8.list 6 rfl) (h8.list 7 rfl) (by rw [show (9 : Int).toNat = 9 from rfl, f9]; decide) ?_
  rw [decide_eq_true (show (dirtyL W4.d0).take (9 : Int).toNat = [0] from f9)]
  refine mJoin_intro (mIf_pos rfl (mIf_pos rfl (mIf_pos rfl (mJoin_intro (mIf_pos rfl (refs_nil fun H9 x9 => hQ H9 (xB.trans (h8.base.trans x9))))))))
end Go.Proofs.Ytmbfefbgjdpelaa

/- ideal: Fill, op; awake. -/
import Derived.Test.YtfjpapddfdhhlaaIdlD
set_option linter.unusedVariables false
set_option linter.unusedSimpArgs false
namespace Go.Proofs.Ytfjpapddfdhhlaa
open Go Go.Kx
def DoneD (H : PH) (r : Bool) (H' : PH) : Prop := r = true ∧ Ext H H'
def opT (n k ep : Int) : Int × Int × Int × Int := if k % 5 = 0 then (3, 0, 0, ep + 1) else if k % 5 = 1 then (2, k % n, 1, 0) else (1, k % n, 0, 0)
def opD (k i : Int) : List Int := if k % 5 = 0 then [] else if k % 5 = 1 then [] else fillL i
theorem op_may {n : Nat} {k i ep : Int} (hn : 1 ≤ n) : mayS n ep (opT n k ep).1 (opT n k ep).2.1 (opT n k ep).2.2.1 (opT n k ep).2.2.2 (opD k i).length = true := by
  have q0 := Int.emod_nonneg k (show (n : Int) ≠ 0 by omega)
  have q1 := Int.emod_lt_of_pos k (show (0 : Int) < n by omega)
  unfold opT opD
  by_cases h0 : k % 5 = 0
  · rw [if_pos h0, if_pos h0]; simp [mayS]
  · rw [if_neg h0, if_neg h0]
    by_cases h1 : k % 5 = 1
    · rw [if_pos h1, if_pos h1]; simp [mayS, hasS]; omega
    · rw [if_neg h1, if_neg h1]; simp [mayS, hasS, fillL_len]; omega
section
variable {H B : PH} {R L : List Ob} {a : Addr} {S : Ids} {n : Nat} {K : Int}
theorem fill_spec {x : Int} {Q : Sl → PH → Prop} (h : IdS H B a S R) (hQ : ∀ B' H' y, Ext B B' → Bytes B' y (fillL x) → IdS H' B' a S R → Q y H') : keelsonalike_Fill x H Q := by
  obtain ⟨sb, so, lb, lo, fb, fo, h⟩ := h
  exact F_fill h fun y B' H' x' hy h' => hQ B' H' y x' hy (IdS.up fb fo x' h')
abbrev opRow (t : Int × Int × Int × Int) (s : Sl) : List Value := [.int .i64 t.1, .int .i64 t.2.1, .int .i64 t.2.2.1, .int .i64 t.2.2.2, Sl.v s]
/-- The last thing, a row, is written whole. -/
theorem S_stLast {cs vs : List Value} {a1 : Addr} {K : PH → Prop} (h : Stars H (baseO B :: L ++ [rowO a1 cs])) (hv : vs.all cellV = true) (hl : vs.length = cs.length) (hK : ∀ H', Stars H' (baseO B :: L ++ [rowO a1 vs]) → K H') : mSt H a1 vs K := by
  have hi : (baseO B :: L ++ [rowO a1 cs])[L.length + 1]? = some (rowO a1 cs) := by simp
  refine st_row (vs := vs) (h.get (L.length + 1) hi) hl hv fun H' r k => hK H' ?_
  have := h.turn (O' := rowO a1 vs) (L.length + 1) hi r (fun c hc => .inl hc) fun c o hc hn => k c o hc hn
  simpa using this
theorem op_spec {k i ep : Int} {Q : (Int × Int × Int × Int × Sl) → PH → Prop} (h : Stars H (baseO B :: L)) (hn : 1 ≤ n) (hn2 : n ≤ 64) (he : 0 ≤ ep) (he2 : ep < 2 ^ 40)
    (hQ : ∀ B' H' s, Ext B B' → Bytes B' s (opD k i) → Stars H' (baseO B' :: L) → Q ((opT n k ep).1, (opT n k ep).2.1, (opT n k ep).2.2.1, (opT n k ep).2.2.2, s) H') : keelsonlaw24_op k n i ep H Q := by
  have last : ∀ {H4 B4 : PH} {a1 : Addr} {cs : List Value} (t : Int × Int × Int × Int) (s : Sl), Ext B B4 → Bytes B4 s (opD k i) → cs.length = 5 → opT n k ep = t → Stars H4 (baseO B4 :: L ++ [rowO a1 cs]) →
      mSt H4 a1 (opRow t s) fun H9 => mLdR (fun (x : (Int × Int × Int × Int × Sl)) => [.int .i64 x.1, .int .i64 x.2.1, .int .i64 x.2.2.1, .int .i64 x.2.2.2.1, Sl.v x.2.2.2.2]) H9 a1 5 fun x11 => Q (x11.1, x11.2.1, x11.2.2.1, x11.2.2.2.1, x11.2.2.2.2) H9 := fun {H4 B4 a1 cs} t s xB hs hcs ht h4 => by
    refine S_stLast h4 rfl (by rw [hcs]; rfl) fun H5 h5 => ?_
    obtain ⟨B5, x5, r5, h6⟩ := Stars.freeze (L := L) (O := rowO a1 (opRow t s)) h5
    refine ⟨(t.1, t.2.1, t.2.2.1, t.2.2.2, s), ((show RowAt B5 a1 (opRow t s) from r5).ext h6.base).all rfl, ?_⟩
    have := hQ B5 H5 s (xB.trans x5) (hs.ext x5) h6
    rw [ht] at this; exact this
  refine S_row h fun a1 H1 h1 x1 => round_spec (by omega) (by omega) (round_spec (by decide) (by decide) ?_)
  refine mIf_intro (fun c => ?_) (fun c => mIf_intro (fun c1 => ?_) (fun c1 => ?_))
  · have c' : k % 5 = 0 := by simpa using c
    rw [wrap64_id (x := ep + 1) (by omega) (by omega)]
    exact last (3, 0, 0, ep + 1) Sl.nil (.refl B) (by rw [opD, if_pos c']; exact .nil) rfl (by rw [opT, if_pos c']) h1
  · have c' : ¬ k % 5 = 0 := by simpa using c
    have c1' : k % 5 = 1 := by simpa using c1
    exact last (2, k % n, 1, 0) Sl.nil (.refl B) (by rw [opD, if_neg c', if_pos c1']; exact .nil) rfl (by rw [opT, if_neg c', if_pos c1']) h1
  · have c' : ¬ k % 5 = 0 := by simpa using c
    have c1' : ¬ k % 5 = 1 := by simpa using c1
    refine F_fill (L := L ++ [rowO a1 _]) h1 fun y B' H' x' hy h' => ?_
    exact last (1, k % n, 0, 0) y x' (by rw [opD, if_neg c', if_neg c1']; exact hy) rfl (by rw [opT, if_neg c', if_neg c1']) h'
end
def V1 : Ids := doS 3 (newS 3) 1 1 0 0 (fillL 1)
def V2 : Ids := doS 3 V1 3 0 0 1 []
def V3 : Ids := doS 3 V2 1 1 0 0 (fillL 2)
theorem V_facts : mayS 3 (newS 3).ep 1 1 0 0 (fillL 1).length = true ∧ mayS 3 V1.ep 3 0 0 2 ([] : List Int).length = false ∧ mayS 3 V1.ep 3 0 0 1 ([] : List Int).length = true ∧ mayS 3 V2.ep 1 1 0 0 (fillL 2).length = true ∧
    rdS V3 1 = fillL 1 ∧ lkS V3 1 = fillL 2 ∧ V3.ep = 1 ∧ V3.sq = 3 ∧ V3.dn = 2 ∧ rdS V3 3 = [] := by
  refine ⟨by decide +kernel, by decide +kernel, by decide +kernel, by decide +kernel, by decide +kernel, by decide +kernel, by decide +kernel, by decide +kernel, by decide +kernel, by decide +kernel⟩
theorem awake_spec {H : PH} {Q : Bool → PH → Prop} (hQ : ∀ H', Ext H H' → Q true H') : keelsonlaw24_awake H Q := by
  obtain ⟨f1, f2, f3, f4, f5, f6, f7, f8, f9, f10⟩ := V_facts
  refine new_spec (n := 3) (R := []) (Stars.start H) (by decide) fun a B1 H1 x1 h1 => mJoin_intro (mIf_neg rfl (new_none (by decide) (mIf_neg rfl ?_)))
  have ok0 : IdOk 3 (newS 3) := newS_ok (by decide)
  refine fill_spec h1 fun B2 H2 y2 x2 hy2 h2 => ?_
  refine do_spec (o := (1, 1, 0, 0, y2)) h2 ok0 (newS_sm 3) (by decide) hy2 fun B3 H3 x3 h3 => ?_
  simp only at h3 ⊢
  rw [if_pos f1] at h3; rw [f1]
  have ok1 : IdOk 3 V1 := doS_ok ok0 f1
  have sm1 : Sm 1 V1 := doS_sm (newS_sm 3) f1
  refine do_spec (S := V1) (o := (3, 0, 0, 2, Sl.nil)) (d := []) h3 ok1 sm1 (by decide) .nil fun B4 H4 x4 h4 => ?_
  simp only at h4 ⊢
  rw [if_neg (by rw [f2]; decide)] at h4; rw [f2]
  refine do_spec (S := V1) (o := (3, 0, 0, 1, Sl.nil)) (d := []) h4 ok1 sm1 (by decide) .nil fun B5 H5 x5 h5 => ?_
  simp only at h5 ⊢
  rw [if_pos f3] at h5; rw [f3]
  have ok2 : IdOk 3 V2 := doS_ok ok1 f3
  have sm2 : Sm 2 V2 := doS_sm sm1 f3
  refine fill_spec h5 fun B6 H6 y6 x6 hy6 h6 => ?_
  refine do_spec (S := V2) (o := (1, 1, 0, 0, y6)) h6 ok2 sm2 (by decide) hy6 fun B7 H7 x7 h7 => ?_
  simp only at h7 ⊢
  rw [if_pos f4] at h7; rw [f4]
  have ok3 : IdOk 3 V3 := doS_ok ok2 f4
  replace h7 : IdS H7 B7 a V3 [] := h7
  refine mJoin_intro (mIf_pos rfl ?_)
  refine mJoin_intro (mIf_pos rfl ?_)
  refine mJoin_intro (mIf_pos rfl ?_)
  refine mJoin_intro (mIf_pos rfl (read_spec h7 ok3 fun B8 H8 y8 x8 hy8 h8 => fill_spec h8 fun B9 H9 y9 x9 hy9 h9 => equal_spec ((hy8.ext x9).ext h9.ext) (hy9.ext h9.ext) (by rw [f5, fillL_len]; decide) ?_))
  rw [decide_eq_true f5]
  refine mJoin_intro (mIf_pos rfl (look_spec h9 ok3 fun B10 H10 y10 x10 hy10 h10 => fill_spec h10 fun B11 H11 y11 x11 hy11 h11 => equal_spec ((hy10.ext x11).ext h11.ext) (hy11.ext h11.ext) (by rw [f6, fillL_len]; decide) ?_))
  rw [decide_eq_true f6]
  refine mJoin_intro (mIf_pos rfl (epoch_spec h11 (mJoin_intro ?_)))
  refine mIf_pos (by rw [f7]; rfl) (seq_spec h11 (mJoin_intro ?_))
  refine mIf_pos (by rw [f8]; rfl) (done_spec h11 (mJoin_intro ?_))
  refine mIf_pos (by rw [f9]; rfl) (read_spec h11 ok3 fun B12 H12 y12 x12 hy12 h12 => mJoin_intro ?_)
  have hl := hy12.lenI
  rw [f10] at hl
  refine mIf_pos (by rw [hl]; rfl) (mIf_pos rfl ?_)
  exact hQ H12 (x1.trans (x2.trans (x3.trans (x4.trans (x5.trans (x6.trans (x7.trans (x8.trans (x9.trans (x10.trans (x11.trans (x12.trans h12.ext))))))))))))
end Go.Proofs.Ytfjpapddfdhhlaa

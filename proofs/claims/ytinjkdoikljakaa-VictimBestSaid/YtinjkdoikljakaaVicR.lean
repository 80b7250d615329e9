/- turned from UsgR by usgv.py. -/
import Derived.Test.YtinjkdoikljakaaVicW
set_option linter.unusedVariables false
set_option linter.unusedSimpArgs false
namespace Go.Proofs.Ytinjkdoikljakaa
open Go Go.Kx

abbrev rowR (c : Cfg) (s t : Sl) : List Value := [.int .i64 c.1, .int .i64 c.2.1, .int .i64 c.2.2, Sl.v s, Sl.v t]
section
variable {H : PH} {L : List Ob} {a : Addr} {c : Cfg} {s t : Sl} {l : List Use} {v : List Int}
theorem r_sealed {Q : Sl → PH → Prop} (r : RowAt H a (rowR c s t)) (hs : ListN encU 2 H s l) (hn : l.length < 2 ^ 30) (hQ : ∀ q H', Stars H' [baseO H, vecO (Value.int .i64) q (sealI l)] → Q q H') : keelsonref11_Table_Sealed (some a) H Q := by
  have h0 := (Stars.start H).nilv (enc := Value.int .i64)
  refine mLoop_count l.length (fun k st Hk => st.2 = (k : Int) ∧ Stars Hk [baseO H, vecO (Value.int .i64) st.1 (sealTo l k)]) ⟨rfl, h0⟩ ?_
  rintro k ⟨q, st⟩ H1 again hk ⟨e, h1⟩ hag
  simp only at e h1
  subst e
  refine nil_some (ld_row (x := s) (r.ext h1.base) rfl ?_)
  rw [hs.lenI]
  refine mIf_intro (fun c => ?_) (fun c => ?_)
  · have hkl : k < l.length := by simpa using c
    refine mJoin_intro (nil_some (ld_row (x := s) (r.ext h1.base) rfl (idxL (hs.ext h1.base) (by simp) (by simpa using hkl) fun b x hx hc => ld0 hc ?_)))
    rw [Int.toNat_natCast] at hx
    have hgd : l.getD k (0, 0) = x := by simp [List.getD, hx]
    have hlen := sealTo_len l k
    simp only []
    rw [wrap_succ (k := k) (by omega), ← hgd]
    refine mIf_intro (fun c1 => ?_) (fun c1 => hag hkl _ _ ⟨rfl, ?_⟩)
    · refine S_new1 (enc := Value.int .i64) h1 fun q1 H6 h6 x6 => S_app (ys := [(k : Int)]) h6 1 rfl (h6.list 2 rfl) cvI rfl (by simp; omega) fun r3 H7 h7 => hag hkl _ _ ⟨rfl, ?_⟩
      rw [sealTo_some c1]
      exact h7.pick [0, 1] (by decide) rfl (by simp)
    · rw [sealTo_none c1]; exact h1
  · have : k = l.length := by simp at c; omega
    subst this
    exact hQ q H1 h1
theorem r_add {at' b : Int} {Q : Bool → PH → Prop} (h : Stars H L) (r : RowAt H a (rowR c s t)) (hc : CfgOk c) (ha : at' ≤ 9223372036854775807) (j : Nat) (hj : L[j]? = some (vecO (Value.int .i64) t v)) (hvl : (v.length : Int) = c.2.1) (hvr : ∀ x, x ∈ v → 0 ≤ x ∧ x ≤ 2147483647)
    (hQ : ∀ H', Stars H' (L.set j (vecO (Value.int .i64) t (addV c v at' b))) → Q (decide (base c ≤ at' ∧ at' < all c)) H') : keelsonref11_Table_Add (some a) at' b H Q := by
  have hcell : cellsAt H (a.add 0) 3 = some (cfgL c) := by
    obtain ⟨e1, e2, e, e3⟩ := r
    have ea : a.add 0 = ⟨a.block, 0, none⟩ := by
      rw [add_zero']
      cases a; simp_all
    rw [ea, cellsAt_of_row e3 (by show 0 + 3 ≤ 5; decide)]; rfl
  refine nil_some ⟨c, hcell, rwhere hc ha fun H1 x1 => ?_⟩
  have h1 := h.ext x1
  have r1 := r.ext x1
  by_cases hin : base c ≤ at' ∧ at' < all c
  · rw [if_pos hin]
    obtain ⟨s0, s1⟩ := seg_in hc hin
    generalize hsg : (at' - base c) / c.2.2 = sg at s0 s1
    have hlt : sg < v.length := by omega
    obtain ⟨x, hx⟩ : ∃ x, v[sg.toNat]? = some x := ⟨_, List.getElem?_eq_getElem (by omega)⟩
    obtain ⟨x0, x9⟩ := hvr x (List.mem_of_getElem? hx)
    have eV : addV c v at' b = v.set sg.toNat (addX x b) := by rw [addV, if_pos hin, hsg, getZ_in s0 hx]
    rw [eV, decide_eq_true hin] at hQ
    have ld : ∀ {K : Int → Prop}, K x → mNil (some a) fun a10 => mLd Sl.v H1 (a10.add 4) fun x12 => mIdx x12 1 sg fun a14 => mLd (.int .i64) H1 a14 K := fun {K} hK => nil_some (ld_row (x := t) r1 rfl (idx_ld (h1.list j hj) s0 hlt fun y hy => by rw [hx] at hy; cases hy; exact hK))
    refine mIf_neg rfl (ld ?_)
    rw [wrap64_id (x := 0 - x) (by omega) (by omega)]
    have last : ∀ y : Int, x + y = addX x b → -9223372036854775808 ≤ x + y → x + y < 9223372036854775808 → mNil (some a) fun a34 => mLd Sl.v H1 (a34.add 4) fun x36 => mNil (some a) fun a38 => mLd Sl.v H1 (a38.add 4) fun x40 => mIdx x40 1 sg fun a42 => mLd (.int .i64) H1 a42 fun x44 => mIdx x36 1 sg fun a46 => mSt H1 a46 ([.int .i64 (IntKind.wrap .i64 (x44 + y))]) fun H48 => Q true H48 := by
      intro y hy y0 y1
      refine nil_some (ld_row (x := t) r1 rfl (ld ?_))
      rw [wrap64_id y0 y1, hy]
      exact S_put (enc := Value.int .i64) h1 j hj s0 hlt rfl hQ
    have mid : ∀ y : Int, (b < 0 - x → y = 0 - x) → (¬ b < 0 - x → y = b) → mNil (some a) fun a22 => mLd Sl.v H1 (a22.add 4) fun x24 => mIdx x24 1 sg fun a26 => mLd (.int .i64) H1 a26 fun x28 => mJoin (fun (s30 : Int) (H32 : PH) => mNil (some a) fun a34 => mLd Sl.v H32 (a34.add 4) fun x36 => mNil (some a) fun a38 => mLd Sl.v H32 (a38.add 4) fun x40 => mIdx x40 1 sg fun a42 => mLd (.int .i64) H32 a42 fun x44 => mIdx x36 1 sg fun a46 => mSt H32 a46 ([.int .i64 (IntKind.wrap .i64 (x44 + s30))]) fun H48 => Q true H48)
        fun j31 => mIf (decide ((IntKind.wrap .i64 (2147483647 - x28)) < y)) (mNil (some a) fun a51 => mLd Sl.v H1 (a51.add 4) fun x53 => mIdx x53 1 sg fun a55 => mLd (.int .i64) H1 a55 fun x57 => j31 (IntKind.wrap .i64 (2147483647 - x57)) H1) (j31 y H1) := by
      intro y y1 y2
      refine ld (mJoin_intro ?_)
      rw [wrap64_id (x := 2147483647 - x) (by omega) (by omega)]
      refine mIf_intro (fun c1 => ld ?_) (fun c1 => ?_)
      · have c1' : 2147483647 - x < y := by simpa using c1
        rw [wrap64_id (x := 2147483647 - x) (by omega) (by omega)]
        refine last (2147483647 - x) ?_ (by omega) (by omega)
        rw [addX]
        by_cases hb : b < 0 - x
        · have := y1 hb; omega
        · have := y2 hb; rw [if_pos (by omega)]; omega
      · have c1' : ¬ 2147483647 - x < y := by simpa using c1
        have hyl : 0 ≤ x + y := by
          by_cases hb : b < 0 - x
          · have := y1 hb; omega
          · have := y2 hb; omega
        refine last y ?_ (by omega) (by omega)
        rw [addX]
        by_cases hb : b < 0 - x
        · have := y1 hb; rw [if_neg (by omega)]; omega
        · have := y2 hb; rw [if_neg (by omega)]; omega
    refine mJoin_intro (mIf_intro (fun c1 => ld ?_) (fun c1 => mid b ?_ fun _ => rfl))
    · have c1' : b < 0 - x := by simpa using c1
      rw [wrap64_id (x := 0 - x) (by omega) (by omega)]
      exact mid (0 - x) (fun _ => rfl) fun h => absurd c1' h
    · have c1' : ¬ b < 0 - x := by simpa using c1
      exact fun h => absurd h c1'
  · rw [if_neg hin]
    have := hQ H1
    rw [addV, if_neg hin, decide_eq_false hin, set_same hj] at this
    exact mIf_pos rfl (this h1)
end
end Go.Proofs.Ytinjkdoikljakaa

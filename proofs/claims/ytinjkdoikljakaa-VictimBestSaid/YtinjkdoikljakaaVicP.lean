/- THE LAW VictimPicks, on formulas. -/
import Derived.Test.YtinjkdoikljakaaVicU
set_option linter.unusedVariables false
set_option linter.unusedSimpArgs false
namespace Go.Proofs.Ytinjkdoikljakaa
open Go Go.Kx

def stepP (c : Cfg) (l : List Use) (v : List Int) (now : Int) (acc : Option X3) (k : Nat) : Option X3 := match cand c l v now k with
  | none => acc
  | some x => match acc with
    | none => some x
    | some b => if betterB x b then some x else some b
theorem pickTo_succ (c : Cfg) (l : List Use) (v : List Int) (now : Int) (k : Nat) : pickTo c l v now (k + 1) = stepP c l v now (pickTo c l v now k) k := by
  simp only [pickTo, stepP]
  cases cand c l v now k <;> rfl
def pickL (c : Cfg) (l : List Use) (v : List Int) (now : Int) (is : List Int) : Option X3 := is.foldl (fun acc i => stepP c l v now acc i.toNat) none
theorem pickL_seal (c : Cfg) (l : List Use) (v : List Int) (now : Int) : ∀ k, pickL c l v now (sealTo l k) = pickTo c l v now k
  | 0 => rfl
  | k + 1 => by
    have ih := pickL_seal c l v now k
    rw [pickTo_succ]
    cases h : (l.getD k (0, 0)).1 == 2 with
    | false =>
      have : cand c l v now k = none := by rw [cand, h]; rfl
      rw [sealTo_none h, ih, stepP, this]
    | true => rw [sealTo_some h, pickL, List.foldl_append]; show stepP c l v now (pickL c l v now (sealTo l k)) (k : Int).toNat = _; rw [ih, Int.toNat_natCast]
theorem seal_mem (l : List Use) : ∀ k, k ≤ l.length → ∀ i, i ∈ sealTo l k → ∃ j : Nat, i = j ∧ j < k ∧ ((l.getD j (0, 0)).1 == 2) = true
  | 0, _, i, hi => by simp [sealTo] at hi
  | k + 1, hk, i, hi => by
    cases h : (l.getD k (0, 0)).1 == 2 with
    | false =>
      rw [sealTo_none h] at hi
      obtain ⟨j, e1, e2, e3⟩ := seal_mem l k (by omega) i hi
      exact ⟨j, e1, by omega, e3⟩
    | true =>
      rw [sealTo_some h] at hi
      rcases List.mem_append.1 hi with h1 | h1
      · obtain ⟨j, e1, e2, e3⟩ := seal_mem l k (by omega) i h1
        exact ⟨j, e1, by omega, e3⟩
      · simp at h1
        exact ⟨k, h1, by omega, h⟩
section
variable {H : PH} {a : Addr} {s t : Sl} {l : List Use} {v : List Int} {c : Cfg}
theorem rpick_spec {now : Int} {Q : Int → PH → Prop} (r : RowAt H a (rowR c s t)) (hc : CfgOk c) (hs : ListN encU 2 H s l) (ht : Ints H t v) (hv : v.length = l.length) (hn : l.length < 2 ^ 30) (hst : ∀ u : Use, u ∈ l → 0 ≤ u.2) (hnow : now ≤ 9223372036854775807)
    (hQ : ∀ H', Ext H H' → Q (((pickTo c l v now l.length).getD (0, 0, -1)).2.2) H') : keelsonref11_Pick (some a) now H Q := by
  refine S_row (Stars.start H) fun a1 H1 h1 _ => S_strow (vs := encX (0, 0, -1)) h1 1 rfl rfl rfl fun H2 h2 => ?_
  have h2' : Stars H2 [baseO H, rowO a1 (encX (0, 0, -1))] := h2
  refine r_sealed (r.ext h2'.base) (hs.ext h2'.base) hn fun q H3 h3 => ?_
  have h4 := h2'.over h3
  have hpos : ∀ (is : List Int) (x : X3), pickL c l v now is = some x → 0 ≤ x.2.2 := by
    intro is
    unfold pickL
    have key : ∀ (is : List Int) (acc : Option X3), (∀ x, acc = some x → 0 ≤ x.2.2) → ∀ x, is.foldl (fun acc i => stepP c l v now acc i.toNat) acc = some x → 0 ≤ x.2.2 := by
      intro is
      induction is with
      | nil => intro acc h x hx; exact h x hx
      | cons i is ih =>
        intro acc h x hx
        refine ih _ (fun y hy => ?_) x hx
        replace hy : stepP c l v now acc i.toNat = some y := hy
        unfold stepP at hy
        cases hcd : cand c l v now i.toNat with
        | none => rw [hcd] at hy; exact h y hy
        | some z =>
          have hz : 0 ≤ z.2.2 := by
            unfold cand at hcd
            split at hcd
            · cases hcd; show (0 : Int) ≤ (i.toNat : Int); omega
            · cases hcd
          rw [hcd] at hy
          cases acc with
          | none => cases hy; exact hz
          | some b =>
            simp only at hy
            split at hy
            · cases hy; exact hz
            · cases hy; exact h y rfl
    exact key is none fun x hx => by cases hx
  have hlen : (sealI l).length ≤ l.length := sealTo_len l l.length
  refine mLoop_count (sealI l).length (fun k st Hk => st = (k : Int) ∧ Stars Hk [baseO H, rowO a1 (encX ((pickL c l v now ((sealI l).take k)).getD (0, 0, -1))), vecO (Value.int .i64) q (sealI l)]) ⟨rfl, h4⟩ ?_
  clear h4 h3 h2' h2 h1
  rintro k st H4 again hk ⟨rfl, h4⟩ hag
  have lq := h4.list (enc := Value.int .i64) 2 rfl
  rw [lq.lenI]
  refine mIf_intro (fun c1 => ?_) (fun c1 => ?_)
  rotate_left
  · have hk' : k = (sealI l).length := by simp at c1; omega
    subst hk'
    rw [List.take_length, show sealI l = sealTo l l.length from rfl, pickL_seal] at h4
    have ra : RowAt H4 a1 (encX ((pickTo c l v now l.length).getD (0, 0, -1))) := h4.get 1 rfl
    exact idxA_row (by decide) (by decide) (ld_row (x := ((pickTo c l v now l.length).getD (0, 0, -1)).2.2) ra rfl (hQ H4 h4.base))
  have hkl : k < (sealI l).length := by simpa using c1
  refine mJoin_intro (idx_ld lq (by omega) (by omega) fun si hsi => ?_)
  rw [Int.toNat_natCast] at hsi
  obtain ⟨j, rfl, hj, hjs⟩ := seal_mem l l.length (Nat.le_refl _) si (List.mem_of_getElem? hsi)
  have etk : (sealI l).take (k + 1) = (sealI l).take k ++ [(j : Int)] := by rw [List.take_add_one, hsi]; rfl
  have estep : pickL c l v now ((sealI l).take (k + 1)) = stepP c l v now (pickL c l v now ((sealI l).take k)) j := by
    rw [etk, pickL, List.foldl_append]; rfl
  generalize hacc : pickL c l v now ((sealI l).take k) = acc at h4 estep
  have hap : ∀ b, acc = some b → 0 ≤ b.2.2 := fun b hb => hpos _ b (hacc.trans hb)
  clear hacc
  obtain ⟨w, hw⟩ : ∃ w, v[j]? = some w := ⟨_, List.getElem?_eq_getElem (by omega)⟩
  obtain ⟨u, hu⟩ : ∃ u, l[j]? = some u := ⟨_, List.getElem?_eq_getElem hj⟩
  have gw : v.getD j 0 = w := by simp [List.getD, hw]
  have gu : l.getD j (0, 0) = u := by simp [List.getD, hu]
  have u0 := hst u (List.mem_of_getElem? hu)
  have r4 := r.ext h4.base
  simp only []
  rw [wrap_succ (by omega)]
  have c5 := hc.2.2.2.2.1; have c6 := hc.2.2.2.2.2
  have rcell : ∀ {H'}, RowAt H' a (rowR c s t) → cellsAt H' (a.add 0) 3 = some (cfgL c) := by
    intro H' r
    obtain ⟨e1, e2, e, e3⟩ := r
    have ea : a.add 0 = ⟨a.block, 0, none⟩ := by
      rw [add_zero']
      cases a; simp_all
    rw [ea, cellsAt_of_row e3 (by show 0 + 3 ≤ 5; decide)]; rfl
  have tcell : ∀ {H'}, Ext H H' → cellAt H' (a.add 4) = some (Sl.v t) := fun x => (r.ext x).cell rfl
  have x04 := h4.base
  refine nil_some (ld_row (x := t) r4 rfl (idx_ld3 (ht.ext x04) (by omega) (by omega) fun a25 w' hw' hcb => nil_some ⟨c, rcell r4, rhalf hc fun H5 x5 => ?_⟩))
  rw [Int.toNat_natCast, hw] at hw'
  cases hw'
  have h5 := h4.ext x5
  have x05 := h5.base
  refine ⟨hcb H5 v w (ht.ext x05) (by rw [Int.toNat_natCast]; exact hw), tcell x05, rwithin (mIf_intro (fun c2 => hag hkl _ _ ⟨rfl, ?_⟩) (fun c2 => ?_))⟩
  · have c2' : (decide (1 ≤ w) && decide (w ≤ half c)) = false := by
      cases hb : (decide (1 ≤ w) && decide (w ≤ half c)) with
      | false => rfl
      | true => rw [hb] at c2; cases c2
    have : cand c l v now j = none := by rw [cand, gw, c2', Bool.and_false]; rfl
    rw [estep, stepP, this]
    exact h5
  · have c2' : (decide (1 ≤ w) && decide (w ≤ half c)) = true := by simpa using c2
    obtain ⟨x, hcx⟩ : ∃ x, x = (scoreOf w (ageOf now u.2) (c.2.2 - 2), w, (j : Int)) := ⟨_, rfl⟩
    have hcand : cand c l v now j = some x := by rw [cand, hjs, gw, gu, c2', hcx]; rfl
    have fetch : ∀ {H'} {K : Int → Prop}, Ext H H' → K u.2 → mNil (some a) fun a40 => mLd Sl.v H' (a40.add 3) fun x42 => mIdx x42 2 (j : Int) fun a44 => mLd (.int .i64) H' (a44.add 1) K := fun {H' K} xx hK => nil_some (ld_row (x := s) (r.ext xx) rfl (idxL (hs.ext xx) (by omega) (by omega) fun b u' hu' hcu => ld1 hcu (by rw [Int.toNat_natCast, hu] at hu'; cases hu'; exact hK)))
    have live : ∀ {H'} {K : Int → Prop}, Ext H H' → K w → mNil (some a) fun a76 => mLd Sl.v H' (a76.add 4) fun x78 => mIdx x78 1 (j : Int) fun a80 => mLd (.int .i64) H' a80 K := fun {H' K} xx hK => nil_some (ld_row (x := t) (r.ext xx) rfl (idx_ld (ht.ext xx) (by omega) (by omega) fun w' hw' => by rw [Int.toNat_natCast, hw] at hw'; cases hw'; exact hK))
    refine fetch x05 (mJoin_cut (fun y Hk => y = ageOf now u.2 ∧ Hk = H5) ?_ fun k' hk' => mIf_intro (fun c3 => fetch x05 (hk' _ _ ⟨?_, rfl⟩)) (fun c3 => hk' _ _ ⟨?_, rfl⟩))
    · rintro _ Hk ⟨rfl, e⟩
      have e := e.symm
      subst e
      refine mJoin_cut (fun (b : Addr) Hk => Stars Hk [baseO H, rowO a1 (encX (acc.getD (0, 0, -1))), vecO (Value.int .i64) q (sealI l), rowO b (encX x)]) ?_ fun k' hk' => ?_
      · intro b H6 h6
        have ra : RowAt H6 a1 (encX (acc.getD (0, 0, -1))) := h6.get 1 rfl
        have put : ∀ H7, stepP c l v now acc j = some x → Stars H7 [baseO H, rowO a1 (encX (acc.getD (0, 0, -1))), vecO (Value.int .i64) q (sealI l), rowO b (encX x)] → mLdR (fun (x : (Int × Int × Int)) => [.int .i64 x.1, .int .i64 x.2.1, .int .i64 x.2.2]) H7 b 3 fun x66 => mSt H7 a1 ([.int .i64 x66.1, .int .i64 x66.2.1, .int .i64 x66.2.2]) fun H68 => again ((k + 1 : Nat) : Int) H68 := by
          intro H7 he h7
          refine S_ldrow h7 3 rfl (S_strow (vs := encX x) h7 1 rfl rfl rfl fun H8 h8 => hag hkl _ _ ⟨rfl, ?_⟩)
          rw [estep, he]
          exact h8.pick [0, 1, 2] (by decide) rfl (by simp)
        refine idxA_row (by decide) (by decide) (ld_row (x := (acc.getD (0, 0, -1)).2.2) ra rfl (mJoin_intro ?_))
        cases hacc : acc with
        | none => exact mIf_pos rfl (mIf_pos rfl (put H6 (by rw [stepP, hcand, hacc]) h6))
        | some b0 =>
          have hb0 := hap b0 hacc
          have h6' := h6
          rw [hacc] at h6'
          refine mIf_neg (by show decide (b0.2.2 < 0) = false; simp; omega) (S_ldrow h6' 3 rfl (S_ldrow (x := b0) h6' 1 rfl (rbetter_spec fun H7 x7 => mIf_intro (fun cb => put H7 ?_ (h6.ext x7)) (fun cb => hag hkl _ _ ⟨rfl, ?_⟩))))
          · rw [stepP, hcand, hacc]; exact if_pos cb
          · have e : stepP c l v now (some b0) j = some b0 := by rw [stepP, hcand]; exact if_neg (by rw [cb]; decide)
            rw [estep, hacc, e]
            exact (h6'.ext x7).pick [0, 1, 2] (by decide) rfl (by simp)
      · refine live x05 (nil_some (ld_row0 (x := c.2.2) (r.ext x05) rfl (nil_some (ld_row (x := t) (r.ext x05) rfl (idx_ld3 (ht.ext x05) (by omega) (by omega) fun a92 w' hw' hcb2 => ?_)))))
        rw [Int.toNat_natCast, hw] at hw'
        cases hw'
        rw [wrap64_id (x := c.2.2 - 2) (by omega) (by omega)]
        refine rscore_spec ⟨hcb2 H5 v w (ht.ext x05) (by rw [Int.toNat_natCast]; exact hw), tcell x05, S_row h5 fun a100 H6 h6 x6 => ⟨hcb2 H6 v w (ht.ext h6.base) (by rw [Int.toNat_natCast]; exact hw), tcell h6.base, ?_⟩⟩
        rw [show [Value.int .i64 (scoreOf w (ageOf now u.2) (c.2.2 - 2)), .int .i64 w, .int .i64 (j : Int)] = encX x by rw [hcx]; rfl]
        exact S_strow h6 3 rfl rfl rfl fun H7 h7 => hk' _ _ h7
    · have c3' : u.2 < now := by simpa using c3
      have e : ageOf now u.2 = min (now - u.2) 2147483647 := by rw [ageOf, if_neg (by omega)]
      rw [wrap64_id (x := now - u.2) (by omega) (by omega), e]
      split <;> omega
    · have c3' : ¬ u.2 < now := by simpa using c3
      rw [ageOf, if_pos (by omega)]
end
end Go.Proofs.Ytinjkdoikljakaa

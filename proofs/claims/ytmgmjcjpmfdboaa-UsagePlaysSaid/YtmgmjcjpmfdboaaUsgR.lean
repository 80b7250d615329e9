/- THE DOCUMENT's TABLE OF USES. -/
import Derived.Test.YtmgmjcjpmfdboaaUsgW
set_option linter.unusedVariables false
set_option linter.unusedSimpArgs false
namespace Go.Proofs.Ytmgmjcjpmfdboaa
open Go Go.Kx

abbrev rowR (c : Cfg) (s t : Sl) : List Value := [.int .i64 c.1, .int .i64 c.2.1, .int .i64 c.2.2, Sl.v s, Sl.v t]
section
variable {H : PH} {L : List Ob} {a : Addr} {c : Cfg} {s t : Sl} {l : List Use} {v : List Int}
theorem r_there {k : Int} {Q : Bool → PH → Prop} (r : RowAt H a (rowR c s t)) (hl : (s.len : Int) = l.length) (hn : l.length < 2 ^ 40) (hQ : Q (inR l k) H) : keelsonref11_Table_there (some a) k H Q := by
  refine nil_some (ld_row (x := s) r rfl (rwithin ?_))
  rw [hl, wrap64_id (by omega) (by omega)]
  have e : (decide (0 ≤ k) && decide (k ≤ (l.length : Int) - 1)) = inR l k := by
    rw [inR]
    congr 1
    exact decide_eq_decide.2 ⟨fun h => by omega, fun h => by omega⟩
  rw [e]; exact hQ
theorem r_use {k : Int} {Q : Use → PH → Prop} (r : RowAt H a (rowR c s t)) (hs : ListN encU 2 H s l) (hn : l.length < 2 ^ 40) (hQ : ∀ H', Ext H H' → Q (getZ (0, 0) l k) H') : keelsonref11_Table_Use (some a) k H Q := by
  refine new_row fun a1 H1 x1 r1 f1 => r_there (r.ext x1) hs.lenI hn (mIf_intro (fun c1 => ?_) (fun c1 => ?_))
  · refine st_row (vs := encU (0, 0)) r1 rfl rfl fun H2 r2 k2 => ldr_row (x := ((0 : Int), (0 : Int))) r2 rfl ?_
    have := hQ H2 (x1.keepB k2 f1)
    rw [getZ_out (inR_no.1 (by simpa using c1))] at this
    exact this
  · obtain ⟨h0, h1⟩ := inR_iff.1 (show inR l k = true by simpa using c1)
    refine nil_some (ld_row (x := s) (r.ext x1) rfl (idxL (hs.ext x1) h0 h1 fun b x hx hc => ldU hc (st_row (vs := encU x) r1 rfl rfl fun H2 r2 k2 => ldr_row (x := x) r2 rfl ?_)))
    have := hQ H2 (x1.keepB k2 f1)
    rw [getZ_in h0 hx] at this
    exact this
theorem r_lives {k : Int} {Q : Int → PH → Prop} (r : RowAt H a (rowR c s t)) (hl : (s.len : Int) = l.length) (hn : l.length < 2 ^ 40) (ht : Ints H t v) (hv : v.length = l.length) (hQ : Q (getZ 0 v k) H) : keelsonref11_Table_Lives (some a) k H Q := by
  refine r_there r hl hn (mIf_intro (fun c1 => ?_) (fun c1 => ?_))
  · rw [getZ_out (by rw [hv]; exact inR_no.1 (by simpa using c1))] at hQ; exact hQ
  · obtain ⟨h0, h1⟩ := inR_iff.1 (show inR l k = true by simpa using c1)
    refine nil_some (ld_row (x := t) r rfl (idx_ld ht h0 (by omega) fun x hx => ?_))
    rw [getZ_in h0 hx] at hQ; exact hQ
theorem r_free {Q : Int → PH → Prop} (r : RowAt H a (rowR c s t)) (hs : ListN encU 2 H s l) (hn : l.length < 2 ^ 40) (hQ : Q (freeN l) H) : keelsonref11_Table_Free (some a) H Q := by
  refine mLoop_count l.length (fun k st Hk => st = (((l.take k).countP (fun u => u.1 == 0) : Int), (k : Int)) ∧ Hk = H) ⟨by simp, rfl⟩ ?_
  rintro k st H1 again hk ⟨rfl, rfl⟩ hag
  refine nil_some (ld_row (x := s) r rfl ?_)
  rw [hs.lenI]
  refine mIf_intro (fun c => ?_) (fun c => ?_)
  · have hkl : k < l.length := by simpa using c
    refine mJoin_intro (nil_some (ld_row (x := s) r rfl (idxL hs (by simp) (by simpa using hkl) fun b x hx hc => ld0 hc ?_)))
    rw [Int.toNat_natCast] at hx
    have hle : ((l.take k).countP fun u => u.1 == 0) ≤ k := Nat.le_trans List.countP_le_length (by rw [List.length_take]; omega)
    have e : (l.take (k + 1)).countP (fun u => u.1 == 0) = (l.take k).countP (fun u => u.1 == 0) + if x.1 == 0 then 1 else 0 := by rw [List.take_add_one, hx]; simp [List.countP_append, List.countP_cons]
    simp only []
    rw [wrap_succ (k := k) (by omega)]
    refine mIf_intro (fun c1 => ?_) (fun c1 => ?_)
    · rw [wrap_succ (by omega)]
      refine hag hkl _ _ ⟨?_, rfl⟩
      rw [e, c1]; rfl
    · refine hag hkl _ _ ⟨?_, rfl⟩
      rw [e, c1]; rfl
  · have : k = l.length := by simp at c; omega
    subst this
    rw [List.take_length]
    exact hQ
theorem r_sealed {Q : Sl → PH → Prop} (r : RowAt H a (rowR c s t)) (hs : ListN encU 2 H s l) (hn : l.length < 2 ^ 30) (hQ : ∀ q H', Stars H' [baseO H, vecO (Value.int .i64) q (sealI l)] → Q q H') : keelsonref11_Table_Sealed (some a) H Q := by
  have h0 := (Stars.start H).nilv (enc := Value.int .i64)
  refine mLoop_count l.length (fun k st Hk => st.2 = (k : Int) ∧ Stars Hk [baseO H, vecO (Value.int .i64) st.1 (sealTo l k)]) ⟨rfl, h0⟩ ?_
  rintro k ⟨q, st⟩ H1 again hk ⟨e, h1⟩ hag
  simp only at e h1
  subst e
  refine nil_some (ld_row (x := s) (r.ext h1.base) rfl ?_)
  rw [hs.lenI]
  refine mIf_intro (fun c => ?_) (fun c => ?_)
  · have hkl : k < l.length := by simpa using c
    refine mJoin_intro (nil_some (ld_row (x := s) (r.ext h1.base) rfl (idxL (hs.ext h1.base) (by simp) (by simpa using hkl) fun b x hx hc => ld0 hc ?_)))
    rw [Int.toNat_natCast] at hx
    have hgd : l.getD k (0, 0) = x := by simp [List.getD, hx]
    have hlen := sealTo_len l k
    simp only []
    rw [wrap_succ (k := k) (by omega), ← hgd]
    refine mIf_intro (fun c1 => ?_) (fun c1 => hag hkl _ _ ⟨rfl, ?_⟩)
    · refine S_new1 (enc := Value.int .i64) h1 fun q1 H6 h6 x6 => S_app (ys := [(k : Int)]) h6 1 rfl (h6.list 2 rfl) cvI rfl (by simp; omega) fun r3 H7 h7 => hag hkl _ _ ⟨rfl, ?_⟩
      rw [sealTo_some c1]
      exact h7.pick [0, 1] (by decide) rfl (by simp)
    · rw [sealTo_none c1]; exact h1
  · have : k = l.length := by simp at c; omega
    subst this
    exact hQ q H1 h1
theorem relTo_take (l : List Use) (v : List Int) (k : Nat) (u : Use) (hu : l[k]? = some u) : (relL l v).take (k + 1) = (relL l v).take k ++ [if idleAt l v k then (0, u.2) else u] := by
  have hk := (List.getElem?_eq_some_iff.1 hu).1
  have : (relL l v)[k]? = some (if idleAt l v k then (0, u.2) else u) := by
    rw [relL, relTo_get]
    cases h : idleAt l v k with
    | true => rw [if_pos ⟨hk, rfl⟩, hu]; rfl
    | false => rw [if_neg (by simp), hu]; rfl
  rw [List.take_add_one, this]; rfl
theorem r_told {fr : Bool} {Q : Sl → PH → Prop} (r : RowAt H a (rowR c s t)) (hs : ListN encU 2 H s l) (ht : Ints H t v) (hv : v.length = l.length) (hn : l.length < 2 ^ 30)
    (hQ : ∀ q H', Stars H' [baseO H, vecNO encU 2 q (if fr then relL l v else l)] → Q q H') : keelsonref11_Table_Told (some a) fr H Q := by
  have h0 := (Stars.start H).nilN (enc := encU) (sz := 2)
  have hrl : (if fr then relL l v else l).length = l.length := by cases fr <;> simp [relL, relTo_len]
  refine mLoop_count l.length (fun k st Hk => st.2 = (k : Int) ∧ Stars Hk [baseO H, vecNO encU 2 st.1 ((if fr then relL l v else l).take k)]) ⟨rfl, by rw [List.take_zero]; exact h0⟩ ?_
  rintro k ⟨q, st⟩ H1 again hk ⟨e, h1⟩ hag
  simp only at e h1
  subst e
  refine nil_some (ld_row (x := s) (r.ext h1.base) rfl ?_)
  rw [hs.lenI]
  refine mIf_intro (fun c => ?_) (fun c => ?_)
  · have hkl : k < l.length := by simpa using c
    refine nil_some (ld_row (x := s) (r.ext h1.base) rfl (idxL (hs.ext h1.base) (by simp) (by simpa using hkl) fun b u hu hc => ldU hc (S_row h1 fun a18 H2 h2 x2 => st_row (vs := encU u) (h2.get 2 rfl) rfl rfl fun H3 r3 k3 => ?_)))
    rw [Int.toNat_natCast] at hu
    have h3 : Stars H3 [baseO H, vecNO encU 2 q ((if fr then relL l v else l).take k), rowO a18 (encU u)] := h2.turn (O' := rowO a18 (encU u)) 2 rfl r3 (fun c hc => .inl hc) fun c o hc hn => k3 c o hc hn
    have hgd : l.getD k (0, 0) = u := by simp [List.getD, hu]
    have fin : ∀ (w : Use) (H5 : PH), w = (if fr && idleAt l v k then (0, u.2) else u) → Stars H5 [baseO H, vecNO encU 2 q ((if fr then relL l v else l).take k), rowO a18 (encU w)] → mLdR (fun (x : (Int × Int)) => [.int .i64 x.1, .int .i64 x.2]) H5 a18 2 fun x37 => mNewS H5 (row [.int .i64 x37.1, .int .i64 x37.2] 52) 1 fun r39 H40 =>
        mApp H40 52 2 16 [.int .i64 0, .int .i64 0] q r39 fun r42 H43 => again (r42, IntKind.wrap .i64 ((k : Int) + 1)) H43 := by
      rintro w H5 hw h5
      refine ldr_row (x := w) (h5.get 2 rfl : RowAt H5 a18 (encU w)) rfl (S_new1N (enc := encU) (sz := 2) (x := w) h5 rfl fun q1 H6 h6 x6 => ?_)
      have v6 : VecN encU 2 H6 q1 [w] := h6.get 3 rfl
      refine S_appN lenU (by decide) (ys := [w]) h6 1 rfl (v6.cells lenU (by decide)) v6.len cvU rfl (by rw [List.length_take, List.length_singleton]; omega) fun q2 H7 h7 => ?_
      rw [wrap_succ (by omega)]
      refine hag hkl _ _ ⟨rfl, ?_⟩
      have e2 : (if fr then relL l v else l).take (k + 1) = (if fr then relL l v else l).take k ++ [w] := by
        rw [hw]
        cases fr with
        | true => simp only [if_true, Bool.true_and]; exact relTo_take l v k u hu
        | false => simp only [Bool.false_eq_true, if_false, Bool.false_and]; rw [List.take_add_one, hu]; rfl
      rw [e2]
      exact h7.pick [0, 1] (by decide) rfl (by simp)
    refine mJoin_intro (mIf_intro (fun cf => ?_) (fun cf => mJoin_intro (mIf_neg rfl (mJoin_intro (mIf_neg rfl (fin u H3 (by rw [cf]; rfl) h3))))))
    refine ld_row (x := u.1) r3 rfl (mJoin_intro (mIf_intro (fun c1 => ?_) (fun c1 => mJoin_intro (mIf_neg rfl (fin u H3 ?_ h3)))))
    · refine nil_some (ld_row (x := t) (r.ext h3.base) rfl (idx_ld (ht.ext h3.base) (by omega) (by omega) fun y hy => mJoin_intro ?_))
      rw [Int.toNat_natCast] at hy
      have hid : idleAt l v k = (y == 0) := by rw [idleAt, hgd, c1, Bool.true_and]; simp [List.getD, hy]
      refine mIf_intro (fun c2 => ?_) (fun c2 => fin u H3 (by rw [hid, c2, Bool.and_false]; rfl) h3)
      exact S_st h3 2 rfl (by show 0 < 2; decide) rfl fun H5 h5 => fin (0, u.2) H5 (by rw [hid, c2, cf]; rfl) h5
    · rw [idleAt, hgd, c1, Bool.false_and, Bool.and_false]; rfl
  · have : k = l.length := by simp at c; omega
    subst this
    rw [List.take_of_length_le (by omega)] at h1
    exact hQ q H1 h1
theorem r_touch {k st : Int} {Q : PH → Prop} (h : Stars H L) (r : RowAt H a (rowR c s t)) (i : Nat) (hi : L[i]? = some (vecNO encU 2 s l)) (hn : l.length < 2 ^ 40) (hQ : ∀ H', Stars H' (L.set i (vecNO encU 2 s (touchL l k st))) → Q H') : keelsonref11_Table_Touch (some a) k st H Q := by
  have hs : VecN encU 2 H s l := h.get i hi
  have stay : (inR l k && (decide (0 ≤ st) && decide (st ≤ 2147483647))) = false → Q H := fun e => by
    have := hQ H
    rw [touchL, e] at this
    simp only [Bool.false_eq_true, if_false] at this
    rw [set_same hi] at this
    exact this h
  refine r_there r hs.lenI hn (mJoin_intro (mIf_intro (fun c => rwithin (mIf_intro (fun c1 => ?_) (fun c1 => stay (by rw [c, c1]; rfl)))) (fun c => mIf_neg rfl (stay (by rw [c]; rfl)))))
  obtain ⟨h0, h1⟩ := inR_iff.1 c
  rw [touchL, c, c1] at hQ
  refine nil_some (ld_row (x := s) r rfl (idxN hs h0 h1 fun b2 y el2 => S_stF lenU (y.1, st) h i hi el2 (by decide) rfl rfl fun H1 h1' => hQ H1 ?_))
  simp only [Bool.and_self, if_true]
  rw [setT, getZ_in h0 el2.get]
  exact h1'
theorem r_grab {k : Int} {Q : Bool → PH → Prop} (h : Stars H L) (r : RowAt H a (rowR c s t)) (i j : Nat) (r2 : ∀ (H' : PH) (l' : List Use), Stars H' (L.set i (vecNO encU 2 s l')) → RowAt H' a (rowR c s t)) (hi : L[i]? = some (vecNO encU 2 s l)) (hj : L[j]? = some (vecO (Value.int .i64) t v)) (hij : i ≠ j) (hv : v.length = l.length) (hn : l.length < 2 ^ 40)
    (hQ : ∀ H', Stars H' ((L.set i (vecNO encU 2 s (grabL l k))).set j (vecO (Value.int .i64) t (grabV l v k))) → Q (grabOk l k) H') : keelsonref11_Table_Grab (some a) k H Q := by
  have hs : VecN encU 2 H s l := h.get i hi
  have stay : grabOk l k = false → Q false H := fun e => by
    have := hQ H
    rw [grabL, grabV, e] at this
    simp only [Bool.false_eq_true, if_false] at this
    rw [set_same hi, set_same hj] at this
    exact this h
  refine r_there r hs.lenI hn (mJoin_intro (mIf_intro (fun c => mIf_pos rfl (stay ?_)) (fun c => ?_)))
  · rw [grabOk]; simp at c; rw [c]; rfl
  · have c' : inR l k = true := by simpa using c
    obtain ⟨h0, h1⟩ := inR_iff.1 c'
    refine nil_some (ld_row (x := s) r rfl (idxN hs h0 h1 fun b x el => ⟨x.1, el.cell lenU rfl, mIf_intro (fun c1 => stay ?_) (fun c1 => ?_)⟩))
    · rw [grabOk, c', getZ_in h0 el.get]; simpa using c1
    · have e : grabOk l k = true := by rw [grabOk, c', getZ_in h0 el.get]; simpa using c1
      rw [grabL, grabV, e] at hQ
      simp only [if_true] at hQ
      refine nil_some (ld_row (x := s) r rfl (idxN hs h0 h1 fun b x el => S_stF lenU (1, x.2) h i hi el (by decide) rfl rfl fun H1 h1' => nil_some (ld_row (x := t) (r2 H1 _ h1') rfl ?_)))
      refine S_put (enc := Value.int .i64) (x := 0) h1' j (by rw [List.getElem?_set_ne hij]; exact hj) h0 (by omega) rfl fun H2 h2 => hQ H2 ?_
      rw [setS, getZ_in h0 el.get]
      exact h2
theorem r_seal {k : Int} {Q : PH → Prop} (h : Stars H L) (r : RowAt H a (rowR c s t)) (i : Nat) (hi : L[i]? = some (vecNO encU 2 s l)) (hn : l.length < 2 ^ 40) (hQ : ∀ H', Stars H' (L.set i (vecNO encU 2 s (sealL l k))) → Q H') : keelsonref11_Table_Seal (some a) k H Q := by
  have hs : VecN encU 2 H s l := h.get i hi
  have stay : (inR l k && (getZ (0, 0) l k).1 == 1) = false → Q H := fun e => by
    have := hQ H
    rw [sealL, e] at this
    simp only [Bool.false_eq_true, if_false] at this
    rw [set_same hi] at this
    exact this h
  refine r_there r hs.lenI hn (mJoin_intro (mIf_intro (fun c => ?_) (fun c => mIf_neg rfl (stay (by rw [c]; rfl)))))
  obtain ⟨h0, h1⟩ := inR_iff.1 c
  refine nil_some (ld_row (x := s) r rfl (idxN hs h0 h1 fun b x el => ⟨x.1, el.cell lenU rfl, mIf_intro (fun c1 => ?_) (fun c1 => stay ?_)⟩))
  · rw [sealL, c, getZ_in h0 el.get, c1] at hQ
    refine nil_some (ld_row (x := s) r rfl (idxN hs h0 h1 fun b2 y el2 => S_stF lenU (2, y.2) h i hi el2 (by decide) rfl rfl fun H1 h1' => hQ H1 ?_))
    simp only [Bool.and_self, if_true]
    rw [setS, getZ_in h0 el2.get]
    exact h1'
  · rw [c, getZ_in h0 el.get, c1]; rfl
theorem r_next {sp : Bool} {Q : Int → PH → Prop} (r : RowAt H a (rowR c s t)) (hs : ListN encU 2 H s l) (hn : l.length < 2 ^ 40) (hQ : Q (takeAt l sp) H) : keelsonref11_Table_Next (some a) sp H Q := by
  have go : takeAt l sp = firstF l → mLoop (fun (s8 : Int) (H11 : PH) (again9 : Int → PH → Prop) => mNil (some a) fun a12 => mLd Sl.v H11 (a12.add 3) fun x14 => mIf (decide (s8 < (x14.len : Int)))
      (mNil (some a) fun a17 => mLd Sl.v H11 (a17.add 3) fun x19 => mIdx x19 2 s8 fun a21 => mLd (.int .i64) H11 (a21.add 0) fun x23 => mIf (x23 == 0) (Q s8 H11) (again9 (IntKind.wrap .i64 (s8 + 1)) H11)) (Q (-1) H11)) 0 H := by
    intro et
    rw [et] at hQ
    refine mLoop_count l.length (fun k st Hk => st = (k : Int) ∧ Hk = H ∧ ∀ i x, i < k → l[i]? = some x → (x.1 == 0) = false) ⟨rfl, rfl, fun i x h => absurd h (by omega)⟩ ?_
    rintro k st H1 again hk ⟨rfl, rfl, hno⟩ hag
    refine nil_some (ld_row (x := s) r rfl ?_)
    rw [hs.lenI]
    refine mIf_intro (fun c => ?_) (fun c => ?_)
    · have hkl : k < l.length := by simpa using c
      refine nil_some (ld_row (x := s) r rfl (idxL hs (by simp) (by simpa using hkl) fun b x hx hc => ld0 hc ?_))
      rw [Int.toNat_natCast] at hx
      obtain ⟨_, hxe⟩ := List.getElem?_eq_some_iff.1 hx
      refine mIf_intro (fun c1 => ?_) (fun c1 => ?_)
      · have e : l.findIdx (fun u => u.1 == 0) = k := (List.findIdx_eq hkl).2 ⟨by rw [hxe]; exact c1, fun j hj => hno j _ hj (List.getElem?_eq_getElem (by omega))⟩
        rw [firstF, e, if_pos hkl] at hQ
        exact hQ
      · rw [wrap_succ (by omega)]
        refine hag hkl _ _ ⟨rfl, rfl, fun i y hi hy => ?_⟩
        by_cases e : i = k
        · subst e; rw [hx] at hy; cases hy; exact c1
        · exact hno i y (by omega) hy
    · have : k = l.length := by simp at c; omega
      subst this
      have e : l.findIdx (fun u => u.1 == 0) = l.length := List.findIdx_eq_length.2 fun x hx => by
        obtain ⟨i, hi⟩ := List.getElem?_of_mem hx
        exact hno i x (List.getElem?_eq_some_iff.1 hi).1 hi
      rw [firstF, e, if_neg (by omega)] at hQ
      exact hQ
  refine mJoin_intro (mIf_intro (fun cs => r_free r hs hn (mIf_intro (fun c => ?_) (fun c => go ?_))) (fun cs => r_free r hs hn (mIf_intro (fun c => ?_) (fun c => go ?_))))
  · have : takeAt l sp = -1 := by rw [takeAt, cs, if_neg (by simp)]; exact first_no (by simp at c; omega)
    rw [this] at hQ; exact hQ
  · rw [takeAt, cs, if_neg (by simp)]
  · have : takeAt l sp = -1 := by rw [takeAt, cs, if_pos]; simp at c ⊢; omega
    rw [this] at hQ; exact hQ
  · rw [takeAt, cs, if_neg]; simp at c ⊢; omega
theorem r_add {at' b : Int} {Q : Bool → PH → Prop} (h : Stars H L) (r : RowAt H a (rowR c s t)) (hc : CfgOk c) (ha : at' ≤ 9223372036854775807) (j : Nat) (hj : L[j]? = some (vecO (Value.int .i64) t v)) (hvl : (v.length : Int) = c.2.1) (hvr : ∀ x, x ∈ v → 0 ≤ x ∧ x ≤ 2147483647)
    (hQ : ∀ H', Stars H' (L.set j (vecO (Value.int .i64) t (addV c v at' b))) → Q (decide (base c ≤ at' ∧ at' < all c)) H') : keelsonref11_Table_Add (some a) at' b H Q := by
  have hcell : cellsAt H (a.add 0) 3 = some (cfgL c) := by
    obtain ⟨e1, e2, e, e3⟩ := r
    have ea : a.add 0 = ⟨a.block, 0, none⟩ := by
      rw [add_zero']
      cases a; simp_all
    rw [ea, cellsAt_of_row e3 (by show 0 + 3 ≤ 5; decide)]; rfl
  refine nil_some ⟨c, hcell, rwhere hc ha fun H1 x1 => ?_⟩
  have h1 := h.ext x1
  have r1 := r.ext x1
  by_cases hin : base c ≤ at' ∧ at' < all c
  · rw [if_pos hin]
    obtain ⟨s0, s1⟩ := seg_in hc hin
    generalize hsg : (at' - base c) / c.2.2 = sg at s0 s1
    have hlt : sg < v.length := by omega
    obtain ⟨x, hx⟩ : ∃ x, v[sg.toNat]? = some x := ⟨_, List.getElem?_eq_getElem (by omega)⟩
    obtain ⟨x0, x9⟩ := hvr x (List.mem_of_getElem? hx)
    have eV : addV c v at' b = v.set sg.toNat (addX x b) := by rw [addV, if_pos hin, hsg, getZ_in s0 hx]
    rw [eV, decide_eq_true hin] at hQ
    have ld : ∀ {K : Int → Prop}, K x → mNil (some a) fun a10 => mLd Sl.v H1 (a10.add 4) fun x12 => mIdx x12 1 sg fun a14 => mLd (.int .i64) H1 a14 K := fun {K} hK => nil_some (ld_row (x := t) r1 rfl (idx_ld (h1.list j hj) s0 hlt fun y hy => by rw [hx] at hy; cases hy; exact hK))
    refine mIf_neg rfl (ld ?_)
    rw [wrap64_id (x := 0 - x) (by omega) (by omega)]
    have last : ∀ y : Int, x + y = addX x b → -9223372036854775808 ≤ x + y → x + y < 9223372036854775808 → mNil (some a) fun a34 => mLd Sl.v H1 (a34.add 4) fun x36 => mNil (some a) fun a38 => mLd Sl.v H1 (a38.add 4) fun x40 => mIdx x40 1 sg fun a42 => mLd (.int .i64) H1 a42 fun x44 => mIdx x36 1 sg fun a46 => mSt H1 a46 ([.int .i64 (IntKind.wrap .i64 (x44 + y))]) fun H48 => Q true H48 := by
      intro y hy y0 y1
      refine nil_some (ld_row (x := t) r1 rfl (ld ?_))
      rw [wrap64_id y0 y1, hy]
      exact S_put (enc := Value.int .i64) h1 j hj s0 hlt rfl hQ
    have mid : ∀ y : Int, (b < 0 - x → y = 0 - x) → (¬ b < 0 - x → y = b) → mNil (some a) fun a22 => mLd Sl.v H1 (a22.add 4) fun x24 => mIdx x24 1 sg fun a26 => mLd (.int .i64) H1 a26 fun x28 => mJoin (fun (s30 : Int) (H32 : PH) => mNil (some a) fun a34 => mLd Sl.v H32 (a34.add 4) fun x36 => mNil (some a) fun a38 => mLd Sl.v H32 (a38.add 4) fun x40 => mIdx x40 1 sg fun a42 => mLd (.int .i64) H32 a42 fun x44 => mIdx x36 1 sg fun a46 => mSt H32 a46 ([.int .i64 (IntKind.wrap .i64 (x44 + s30))]) fun H48 => Q true H48)
        fun j31 => mIf (decide ((IntKind.wrap .i64 (2147483647 - x28)) < y)) (mNil (some a) fun a51 => mLd Sl.v H1 (a51.add 4) fun x53 => mIdx x53 1 sg fun a55 => mLd (.int .i64) H1 a55 fun x57 => j31 (IntKind.wrap .i64 (2147483647 - x57)) H1) (j31 y H1) := by
      intro y y1 y2
      refine ld (mJoin_intro ?_)
      rw [wrap64_id (x := 2147483647 - x) (by omega) (by omega)]
      refine mIf_intro (fun c1 => ld ?_) (fun c1 => ?_)
      · have c1' : 2147483647 - x < y := by simpa using c1
        rw [wrap64_id (x := 2147483647 - x) (by omega) (by omega)]
        refine last (2147483647 - x) ?_ (by omega) (by omega)
        rw [addX]
        by_cases hb : b < 0 - x
        · have := y1 hb; omega
        · have := y2 hb; rw [if_pos (by omega)]; omega
      · have c1' : ¬ 2147483647 - x < y := by simpa using c1
        have hyl : 0 ≤ x + y := by
          by_cases hb : b < 0 - x
          · have := y1 hb; omega
          · have := y2 hb; omega
        refine last y ?_ (by omega) (by omega)
        rw [addX]
        by_cases hb : b < 0 - x
        · have := y1 hb; rw [if_neg (by omega)]; omega
        · have := y2 hb; rw [if_neg (by omega)]; omega
    refine mJoin_intro (mIf_intro (fun c1 => ld ?_) (fun c1 => mid b ?_ fun _ => rfl))
    · have c1' : b < 0 - x := by simpa using c1
      rw [wrap64_id (x := 0 - x) (by omega) (by omega)]
      exact mid (0 - x) (fun _ => rfl) fun h => absurd c1' h
    · have c1' : ¬ b < 0 - x := by simpa using c1
      exact fun h => absurd h c1'
  · rw [if_neg hin]
    have := hQ H1
    rw [addV, if_neg hin, decide_eq_false hin, set_same hj] at this
    exact mIf_pos rfl (this h1)
end
end Go.Proofs.Ytmgmjcjpmfdboaa

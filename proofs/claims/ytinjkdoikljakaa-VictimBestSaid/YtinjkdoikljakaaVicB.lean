/- turned from UsgB by usgv.py. -/
import Derived.Test.YtinjkdoikljakaaVicA
set_option linter.unusedVariables false
set_option linter.unusedSimpArgs false
namespace Go.Proofs.Ytinjkdoikljakaa
open Go Go.Kx

section
variable {H : PH} {L : List Ob} {a : Addr} {p : Option Addr} {s t : Sl} {l : List Use} {v : List Int}
theorem callZ {x : Use} {K : Value → PH → Prop} (hK : ∀ H', Ext H H' → K (.bool (x.1 == 0)) H') : CallV Try.prog (.func (.func 50) #[] #[]) [.agg ([.int .i64 x.1, .int .i64 x.2] : List Value).toArray] H K := by
  refine ⟨50, #[], #[], rfl, body_of Try.func50 rfl rfl, ?_⟩
  have h := usage_Table_Take_c1_s x H (fun b H' => Ext H H' ∧ b = (x.1 == 0)) (new_row fun a1 H2 x2 r2 _ => ld_row (x := x.1) r2 rfl ⟨x2, rfl⟩)
  exact CallsH.mono h fun r H' hr => by
    obtain ⟨b, rfl, x', rfl⟩ := hr
    exact hK H' x'
theorem first_spec {Q : Int → PH → Prop} (hs : ListN encU 2 H s l) (hn : l.length < 2 ^ 40) (hQ : ∀ H', Ext H H' → Q (firstF l) H') : slices_IndexFunc_Slapi_Use_api_Use s (.func (.func 50) #[] #[]) H Q := by
  refine mLoop_count l.length (fun k st Hk => st = (k : Int) ∧ Ext H Hk ∧ ∀ i x, i < k → l[i]? = some x → (x.1 == 0) = false) ⟨rfl, .refl H, fun i x h => absurd h (by omega)⟩ ?_
  rintro k st H1 again hk ⟨rfl, x1, hno⟩ hag
  rw [hs.lenI]
  refine mIf_intro (fun c => ?_) (fun c => ?_)
  · have hkl : k < l.length := by simpa using c
    refine idxL (hs.ext x1) (by simp) (by simpa using hkl) fun b x hx hc => ldU hc (callZ fun H2 x2 => ⟨_, rfl, ?_⟩)
    rw [Int.toNat_natCast] at hx
    obtain ⟨_, hxe⟩ := List.getElem?_eq_some_iff.1 hx
    refine mIf_intro (fun c1 => ?_) (fun c1 => ?_)
    · have e : l.findIdx (fun u => u.1 == 0) = k := (List.findIdx_eq hkl).2 ⟨by rw [hxe]; exact c1, fun j hj => hno j _ hj (List.getElem?_eq_getElem (by omega))⟩
      have := hQ H2 (x1.trans x2)
      rw [firstF, e, if_pos hkl] at this
      exact this
    · rw [wrap_succ (by omega)]
      refine hag hkl _ _ ⟨rfl, x1.trans x2, fun i y hi hy => ?_⟩
      by_cases e : i = k
      · subst e; rw [hx] at hy; cases hy; exact c1
      · exact hno i y (by omega) hy
  · have : k = l.length := by simp at c; omega
    subst this
    have e : l.findIdx (fun u => u.1 == 0) = l.length := List.findIdx_eq_length.2 fun x hx => by
      obtain ⟨i, hi⟩ := List.getElem?_of_mem hx
      exact hno i x (List.getElem?_eq_some_iff.1 hi).1 hi
    have := hQ H1 x1
    rw [firstF, e, if_neg (by omega)] at this
    exact this
theorem grab_neg (l : List Use) : grabOk l (-1) = false := by rw [grabOk, inR]; rfl
theorem take_spec {sp : Bool} {Q : Int → Bool → PH → Prop} (h : Stars H L) (r : RowAt H a (tabRow p s t)) (i j : Nat) (hi : L[i]? = some (vecNO encU 2 s l)) (hj : L[j]? = some (vecO (Value.int .i64) t v)) (hij : i ≠ j) (hv : v.length = l.length) (hn : l.length < 2 ^ 40)
    (hQ : ∀ H', Stars H' ((L.set i (vecNO encU 2 s (grabL l (takeAt l sp)))).set j (vecO (Value.int .i64) t (grabV l v (takeAt l sp)))) → Q (if grabOk l (takeAt l sp) then takeAt l sp else 0) (grabOk l (takeAt l sp)) H') : usage_Table_Take (some a) sp H Q := by
  have hs : VecN encU 2 H s l := h.get i hi
  have go : ∀ H1, Ext H H1 → takeAt l sp = firstF l → mNil (some a) fun a7 => mLd Sl.v H1 (a7.add 1) fun x9 => slices_IndexFunc_Slapi_Use_api_Use x9 (.func (.func 50) #[] #[]) H1 fun y12 H11 => usage_Table_Grab (some a) y12 H11 fun y14 H13 => mIf (!y14) (Q 0 false H13) (Q y12 true H13) := by
    intro H1 x1 et
    rw [et] at hQ
    refine nil_some (ld_row (x := s) (r.ext x1) rfl (first_spec ((hs.listN lenU).ext x1) hn fun H2 x2 => grab_spec (h.ext (x1.trans x2)) (r.ext (x1.trans x2)) i j hi hj hij hv fun H3 h3 => ?_))
    have q := hQ H3 h3
    refine mIf_intro (fun c => ?_) (fun c => ?_)
    · have c' : grabOk l (firstF l) = false := by simpa using c
      rw [c'] at q; exact q
    · have c' : grabOk l (firstF l) = true := by simpa using c
      rw [c'] at q; exact q
  refine mJoin_intro (mIf_neg rfl (mJoin_intro (mIf_intro (fun c => ?_) (fun c => mIf_neg rfl (go H (.refl H) ?_)))))
  · refine free_spec r (hs.listN lenU) hn fun H1 x1 => mIf_intro (fun c1 => ?_) (fun c1 => go H1 x1 ?_)
    · have et : takeAt l sp = -1 := by rw [takeAt, c, if_pos]; simp at c1 ⊢; omega
      have := hQ H1
      rw [et, grabL, grabV, grab_neg] at this
      simp only [Bool.false_eq_true, if_false] at this
      rw [set_same hi, set_same hj] at this
      exact this (h.ext x1)
    · rw [takeAt, if_neg]; simp at c1 ⊢; omega
  · rw [takeAt, if_neg]; simp at c ⊢; simp [c]
theorem relTo_at (l : List Use) (v : List Int) (k : Nat) : (relTo l v k)[k]? = l[k]? := by rw [relTo_get, if_neg (by omega)]
theorem idle_relTo (l : List Use) (v : List Int) (k : Nat) : idleAt (relTo l v k) v k = idleAt l v k := by rw [idleAt, idleAt, List.getD, relTo_at]; rfl
theorem get_last {α : Type} (L : List α) (x : α) : (L ++ [x])[L.length]? = some x := by simp
theorem set_last {α : Type} (L : List α) (x y : α) : (L ++ [x]).set L.length y = L ++ [y] := by simp
def okU (u : Use) : Bool := (decide (0 ≤ u.1) && decide (u.1 ≤ 2)) && (decide (0 ≤ u.2) && decide (u.2 ≤ 2147483647))
def iniL (n : Nat) (ul : List Use) : List Use := ul ++ (List.replicate n (0, 0)).drop ul.length
theorem tnew_spec {c : Cfg} {x : Sl} {ul : List Use} {Q : Option Addr → PH → Prop} (hg : Gm H p c) (hc : CfgOk c) (hx : ListN encU 2 H x ul) (hul : ul.length < 2 ^ 40)
    (hbad : ¬ ((ul = [] ∨ (ul.length : Int) = c.2.1) ∧ ∀ u, u ∈ ul → okU u = true) → ∀ H', Ext H H' → Q none H')
    (hgood : (ul = [] ∨ (ul.length : Int) = c.2.1) → (∀ u, u ∈ ul → okU u = true) → ∀ a s t H', Stars H' [baseO H, vecNO encU 2 s (iniL c.2.1.toNat ul), vecO (Value.int .i64) t (List.replicate c.2.1.toNat 0), rowO a (tabRow p s t)] → Q (some a) H') : usage_New p x H Q := by
  obtain ⟨g, rfl, hr⟩ := hg
  have hcl := hc.2.2.1; have hcu := hc.2.2.2.1
  refine cfg_spec ⟨g, rfl, hr⟩ fun H1 x1 => mJoin_intro (mIf_neg rfl (mJoin_intro ?_))
  have hxl := hx.lenI
  have main : (ul = [] ∨ (ul.length : Int) = c.2.1) → mIf false (Q none H1) (mLoop (fun (s9 : Int) (H12 : PH) (again10 : Int → PH → Prop) =>
  mIf (decide (s9 < (x.len : Int)))
  (mIdx x 2 s9 fun a14 =>
  mLdR (fun (x : (Int × Int)) => [.int .i64 x.1, .int .i64 x.2]) H12 a14 2 fun x16 =>
  mNew H12 (row [.int .i64 0, .int .i64 0] 40) fun a18 H19 =>
  mSt H19 a18 ([.int .i64 x16.1, .int .i64 x16.2]) fun H21 =>
  mLd (.int .i64) H21 (a18.add 0) fun x23 =>
  mJoin (fun (s26 : Bool) (H28 : PH) =>
  mJoin (fun (s31 : Bool) (H33 : PH) =>
  mJoin (fun (s36 : Bool) (H38 : PH) =>
  mIf s36
  (Q none H38)
  (again10 (IntKind.wrap .i64 (s9 + 1)) H38))
  fun j37 =>
  mIf s31
  (j37 true H33)
  (mLd (.int .i64) H33 (a18.add 1) fun x41 =>
  j37 (decide (2147483647 < x41)) H33))
  fun j32 =>
  mIf s26
  (j32 true H28)
  (mLd (.int .i64) H28 (a18.add 1) fun x43 =>
  j32 (decide (x43 < 0)) H28))
  fun j27 =>
  mIf (decide (x23 < 0))
  (j27 true H21)
  (mLd (.int .i64) H21 (a18.add 0) fun x45 =>
  j27 (decide (2 < x45)) H21))
  (mJoin (fun (s47 : Option Addr) (H49 : PH) =>
  mNil s47 fun a51 =>
  mLd Sl.v H49 (a51.add 1) fun x53 =>
  mCopy H49 2 x53 x fun x55 H56 =>
  Q s47 H56)
  fun j48 =>
  mBoth (MkOk 16 c.2.1 c.2.1) <|
  mBoth (MkOk 8 c.2.1 c.2.1) <|
  mNewSI H12 (row (zeros (c.2.1 : Int).toNat [.int .i64 0, .int .i64 0]) 40) c.2.1 c.2.1 fun r59 H60 =>
  mNewSI H60 (row (zeros (c.2.1 : Int).toNat [.int .i64 0]) 3) c.2.1 c.2.1 fun r62 H63 =>
  mNew H63 (row [.pointer (some g), Sl.v r59, Sl.v r62] 62) fun a65 H66 =>
  j48 (some a65) H66))
  0 H1) := by
    intro hlen
    refine mIf_neg rfl ?_
    refine mLoop_count ul.length (fun k st Hk => st = (k : Int) ∧ Ext H Hk ∧ ∀ i u, i < k → ul[i]? = some u → okU u = true) ⟨rfl, x1, fun i u hi => absurd hi (by omega)⟩ ?_
    rintro k st H2 again hk ⟨rfl, x2, hok⟩ hag
    rw [hxl]
    refine mIf_intro (fun c0 => ?_) (fun c0 => ?_)
    · have hkl : k < ul.length := by simpa using c0
      refine idxL (hx.ext x2) (by simp) (by simpa using hkl) fun b u hu hcu => ldU hcu (new_row fun a2 H3 x3 r3 f3 => st_row (vs := encU u) r3 rfl rfl fun H4 r4 k4 => ld_row (x := u.1) r4 rfl ?_)
      rw [Int.toNat_natCast] at hu
      have x4 : Ext H H4 := x2.trans (x3.keepB k4 f3)
      have bad : okU u = false → Q none H4 := fun hb => hbad (fun hh => by have := hh.2 u (List.mem_of_getElem? hu); rw [hb] at this; cases this) H4 x4
      refine mJoin_intro (mIf_intro (fun c1 => mJoin_intro (mIf_pos rfl (mJoin_intro (mIf_pos rfl (mIf_pos rfl (bad (by simp [okU]; simp at c1; omega))))))) (fun c1 => ld_row (x := u.1) r4 rfl (mJoin_intro ?_)))
      refine mIf_intro (fun c2 => mJoin_intro (mIf_pos rfl (mIf_pos rfl (bad (by simp [okU]; simp at c2; omega))))) (fun c2 => ld_row (x := u.2) r4 rfl (mJoin_intro ?_))
      refine mIf_intro (fun c3 => mIf_pos rfl (bad (by simp [okU]; simp at c3; omega))) (fun c3 => ld_row (x := u.2) r4 rfl (mIf_intro (fun c4 => bad (by simp [okU]; simp at c4; omega)) (fun c4 => ?_)))
      rw [wrap_succ (by omega)]
      refine hag hkl _ _ ⟨rfl, x4, fun i w hi hw => ?_⟩
      by_cases e : i = k
      · subst e; rw [hu] at hw; cases hw; simp [okU]; simp at c1 c2 c3 c4; omega
      · exact hok i w (by omega) hw
    · have hk' : k = ul.length := by simp at c0; omega
      subst hk'
      have hall : ∀ u, u ∈ ul → okU u = true := fun u hu => by
        obtain ⟨i, hi⟩ := List.getElem?_of_mem hu
        exact hok i u (List.getElem?_eq_some_iff.1 hi).1 hi
      refine mJoin_intro ⟨⟨by omega, by omega, by omega⟩, ⟨by omega, by omega, by omega⟩, S_mkSIN (enc := encU) (sz := 2) (x := (0, 0)) ((Stars.start H).ext x2 |>.base_mono (.refl H)) rfl fun r5 H5 h5 x5 => S_mkSI (enc := Value.int .i64) (x := 0) h5 fun r6 H6 h6 x6 => S_row h6 fun a7 H7 h7 x7 => ?_⟩
      refine nil_some (S_ld (x := r5) h7 3 rfl rfl (S_copyNN lenU (by decide) h7 1 rfl (hx.ext h7.base) ?_ cvU fun H8 h8 => ?_))
      · rw [List.length_replicate]
        rcases hlen with h | h
        · subst h; exact Nat.zero_le _
        · omega
      · exact hgood hlen hall a7 r5 r6 H8 h8
  refine mIf_intro (fun c1 => ?_) (fun c1 => main (.inl ?_))
  · by_cases hl : (ul.length : Int) = c.2.1
    · have e : ((x.len : Int) != c.2.1) = false := by rw [hxl]; simp [hl]
      rw [e]; exact main (.inr hl)
    · have e : ((x.len : Int) != c.2.1) = true := by rw [hxl]; simp [hl]
      rw [e]
      refine mIf_pos rfl (hbad (fun hh => ?_) H1 x1)
      rcases hh.1 with h | h
      · subst h; rw [hxl] at c1; simp at c1
      · exact hl h
  · rw [hxl] at c1
    have : ul.length = 0 := by simpa using c1
    exact List.length_eq_zero_iff.1 this
theorem tnew_none {x : Sl} {Q : Option Addr → PH → Prop} (hQ : ∀ H', Ext H H' → Q none H') : usage_New none x H Q := by
  refine new_row fun a1 H1 x1 r1 f1 => mIf_pos rfl (st_row (vs := [.int .i64 0, .int .i64 0, .int .i64 0]) r1 rfl rfl fun H2 r2 k2 => ldr_row (x := ((0 : Int), (0 : Int), (0 : Int))) r2 rfl ?_)
  exact mJoin_intro (mIf_pos rfl (mIf_pos rfl (hQ H2 (x1.keepB k2 f1))))
end
end Go.Proofs.Ytinjkdoikljakaa

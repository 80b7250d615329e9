/- window: THE LAW WindowOrders, on formulas. -/
import Derived.Test.YtegnpplffhkjhaaWinC
import Derived.Test.YtegnpplffhkjhaaKxMp
set_option linter.unusedVariables false
set_option linter.unusedSimpArgs false
namespace Go.Proofs.Ytegnpplffhkjhaa
open Go Go.Kx
theorem mfind_shift (k : Int) : ∀ (l : MapL) (i : Nat), mfind l k (i + 1) = (mfind l k i).map fun q => (q.1 + 1, q.2)
  | [], _ => rfl
  | x :: l, i => by
    rw [mfind, mfind]
    split
    · rfl
    · exact mfind_shift k l (i + 1)
def mgetR (k : Int) : MapL → Int × Bool
  | [] => (0, false)
  | x :: l => if k == x.1 then (x.2.1, true) else mgetR k l
def mputR (k v : Int) (c : Nat) : MapL → MapL
  | [] => [(k, v, c)]
  | x :: l => if k == x.1 then (k, v, x.2.2) :: l else x :: mputR k v c l
theorem mget_eq (k : Int) : ∀ l : MapL, mget l k = mgetR k l
  | [] => rfl
  | x :: l => by
    have ih := mget_eq k l
    by_cases h : (k == x.1) = true
    · unfold mget; rw [mfind, if_pos h, mgetR, if_pos h]
    · rw [mgetR, if_neg h, ← ih]
      unfold mget
      rw [mfind, if_neg h, mfind_shift]
      cases mfind l k 0 <;> rfl
theorem mput_eq (k v : Int) (c : Nat) : ∀ l : MapL, mput l k v c = mputR k v c l
  | [] => rfl
  | x :: l => by
    have ih := mput_eq k v c l
    by_cases h : (k == x.1) = true
    · unfold mput; rw [mfind, if_pos h, mputR, if_pos h]; rfl
    · rw [mputR, if_neg h, ← ih]
      unfold mput
      rw [mfind, if_neg h, mfind_shift]
      cases mfind l k 0 <;> rfl
theorem mget_put (k v : Int) (c : Nat) (j : Int) : ∀ l : MapL, mgetR j (mputR k v c l) = if j = k then (v, true) else mgetR j l
  | [] => by
    rw [mputR]
    simp only [mgetR, beq_iff_eq]
  | x :: l => by
    have ih := mget_put k v c j l
    rw [mputR]
    by_cases h : k = x.1
    · rw [if_pos (by simpa using h)]
      simp only [mgetR, beq_iff_eq]
      by_cases e : j = k
      · rw [if_pos e, if_pos e]
      · rw [if_neg e, if_neg e, if_neg (by omega)]
    · rw [if_neg (by simpa using h)]
      simp only [mgetR, beq_iff_eq, ih]
      by_cases e : j = x.1
      · rw [if_pos e, if_neg (by omega), if_pos e]
      · rw [if_neg e, if_neg e]
/-- A map in memory. -/
def mapO (m : Option Nat) (f : Int → Option Int) : Ob := ⟨fun H => ∃ r l c, m = some r ∧ H r = some (mapObj l c) ∧ ∀ k, mget l k = ((f k).getD 0, (f k).isSome), fun c => m = some c,
  fun ⟨r, l, c, h1, h2, h3⟩ x => ⟨r, l, c, h1, x r _ h1 h2, h3⟩, fun {H c} ⟨r, l, c', h1, h2, h3⟩ hc => by
    rw [h1] at hc; cases hc; rw [h2]; simp⟩
section
variable {H : PH} {L : List Ob} {m : Option Nat} {f : Int → Option Int} {i : Nat}
theorem S_makeMap {K : Option Nat → PH → Prop} (h : Stars H L) (hK : ∀ m H', Stars H' (L ++ [mapO m fun _ => none]) → K m H') : mMakeMap H K := by
  rintro m H' ⟨r, hr, rfl, rfl⟩
  refine hK _ _ (h.new (O' := mapO (some r) fun _ => none) (.upd hr) ⟨r, [], 0, rfl, by rw [PH.upd_same], fun k => rfl⟩ fun c hc => ?_)
  replace hc : some r = some c := hc
  cases hc; exact hr
theorem S_mapGet {k : Int} {K : Int → Bool → Prop} (h : Stars H L) (i : Nat) (hi : L[i]? = some (mapO m f)) (hK : K ((f k).getD 0) (f k).isSome) : mMapGet H m k K := by
  obtain ⟨r, l, c, h1, h2, h3⟩ := h.get i hi
  exact ⟨_, _, ⟨r, l, c, h1, h2, h3 k⟩, hK⟩
theorem S_mapPut {k v : Int} {K : PH → Prop} (h : Stars H L) (i : Nat) (hi : L[i]? = some (mapO m f)) (hK : ∀ H', Stars H' (L.set i (mapO m fun j => if j = k then some v else f j)) → K H') : mMapPut H m k v K := by
  obtain ⟨r, l, c, h1, h2, h3⟩ := h.get i hi
  refine ⟨r, l, c, h1, h2, hK _ (h.turn (O' := mapO m fun j => if j = k then some v else f j) i hi ⟨r, _, _, h1, by rw [PH.upd_same], fun j => ?_⟩ (fun c hc => .inl hc) fun c' o hc hn => ?_)⟩
  · rw [mput_eq, mget_eq, mget_put, ← mget_eq, h3]
    by_cases e : j = k
    · simp [e]
    · simp [e]
  · rw [PH.upd_other _ _ (fun e => hn (by rw [e]; exact h1))]; exact hc
end
theorem orders_law {H : PH} {p0 : Int} {sl : Sl} {m : List Int} (hs : Ints H sl m) : keelsonlaw23_WindowOrders p0 sl H (DoneD H) := by
  have hlen := hs.lenI
  have hawake : ∀ H2, Ext H H2 → keelsonlaw23_awake H2 (DoneD H) := fun H2 x2 => awake_spec fun H3 x3 => ⟨rfl, x2.trans x3⟩
  have aw := hawake H (.refl _)
  refine mJoin_intro (mIf_intro (fun _ => mJoin_intro (mIf_pos rfl (mIf_pos rfl aw))) (fun c0 => ?_))
  refine mJoin_intro (mIf_intro (fun _ => mIf_pos rfl aw) (fun c1 => mIf_intro (fun _ => aw) (fun c4 => ?_)))
  have g0 : 1 ≤ p0 := by simp at c0; omega
  have g1 : p0 ≤ 16 := by simp at c1; omega
  have g4 : m.length ≤ 120 := by simp at c4; omega
  refine new_spec (fun h => absurd ⟨by omega, g1, by decide, by decide⟩ h) fun _ a s H1 h1 => mIf_neg rfl (S_makeMap h1 fun mp H2 h2 => ?_)
  obtain ⟨N, rfl⟩ := Int.eq_ofNat_of_zero_le (show 0 ≤ p0 by omega)
  rw [Int.toNat_natCast] at h2
  refine mLoop_count m.length (fun k st Hk => ∃ (W : Win) (f : Int → Option Int), st = (W.next, (k : Int)) ∧ W.size = N ∧ W.next ≤ 1 + 20 * k ∧ (∀ j, W.next ≤ j → f j = W.f j) ∧ Stars Hk [baseO H, winO a s W, mapO mp f])
    ⟨newWin N 1, fun _ => none, rfl, rfl, by show (1 : Int) ≤ 1 + 20 * 0; decide, fun _ _ => rfl, h2⟩ ?_
  clear h1 h2
  rintro k st H3 again hk ⟨W, f, rfl, hN, hn, hf, h3⟩ hag
  refine mIf_intro (fun c => ?_) (fun _ => hawake H3 h3.base)
  have hkl : k < m.length := by simp at c; omega
  refine idx_ld (i := (k : Int)) (hs.ext h3.base) (by omega) (by omega) fun x _ => round_spec (by decide) (by decide) ?_
  have q0 := Int.emod_nonneg x (show (60 : Int) ≠ 0 by decide)
  have q1 := Int.emod_lt_of_pos x (show (0 : Int) < 60 by decide)
  generalize x % 60 = y at q0 q1
  rw [wrap64_id (x := 1 + y) (by omega) (by omega)]
  have w : WinAt H3 a s W := h3.get 1 rfl
  have wn1 := w.ok.n1
  have wout := w.ok.out
  refine S_mapGet h3 2 rfl (put_spec h3 (i := 1) rfl fun H4 h4 => ?_)
  have h4' : Stars H4 [baseO H, winO a s (W.put (1 + y) k), mapO mp f] := h4
  clear h4 h3
  -- what is popped
  refine mJoin_cut (fun _ Hk => ∃ (V : Win) (f : Int → Option Int), V.next = W.next ∧ V.size = N ∧ (∀ j, V.next ≤ j → f j = V.f j) ∧ Stars Hk [baseO H, winO a s V, mapO mp f]) ?_ ?_
  · rintro _ H5 ⟨V, f, hVn, hVs, hVf, h5⟩
    refine mJoin_cut (fun nx Hk => ∃ (V : Win) (f : Int → Option Int), nx = V.next ∧ V.size = N ∧ V.next ≤ 1 + 20 * (k + 1 : Nat) ∧ (∀ j, V.next ≤ j → f j = V.f j) ∧ Stars Hk [baseO H, winO a s V, mapO mp f]) ?_ ?_
    · rintro nx H6 ⟨V, f, rfl, hVs, hVb, hVf, h6⟩
      refine next_spec (h6.get 1 rfl) (mIf_neg (by simp) ?_)
      simp only []
      rw [show IntKind.wrap .i64 ((k : Int) + 1) = ((k + 1 : Nat) : Int) from wrap_succ (by omega)]
      exact hag hkl _ _ ⟨V, f, rfl, hVs, hVb, hVf, h6⟩
    · intro j41 hj
      refine mLoop_count 20 (fun z st Hk => ∃ (V : Win) (f : Int → Option Int), st = (V.next, (z : Int)) ∧ V.size = N ∧ V.next ≤ 1 + 20 * k + z ∧ (∀ j, V.next ≤ j → f j = V.f j) ∧ Stars Hk [baseO H, winO a s V, mapO mp f]) ⟨V, f, by rw [hVn]; rfl, hVs, by rw [hVn]; simpa using hn, hVf, h5⟩ ?_
      clear h5 hVf hVn hVs
      clear V f
      rintro z st H6 again2 hz ⟨V, f, rfl, hVs, hVb, hVf, h6⟩ hag2
      refine mIf_intro (fun cz => ?_) (fun _ => hj _ _ ⟨V, f, rfl, hVs, by omega, hVf, h6⟩)
      have hz20 : z < 20 := by have := of_decide_eq_true cz; omega
      refine pop_spec h6 (i := 1) rfl (by omega) fun H7 h7 => ?_
      have h7' : Stars H7 [baseO H, winO a s V.pop, mapO mp f] := h7
      clear h7 h6
      have hfn := hVf V.next (Int.le_refl _)
      refine S_mapGet h7' 2 rfl ?_
      simp only []
      rw [hfn]
      have ep : V.peekO = (V.f V.next).isSome := by rw [Win.peekO]; cases V.f V.next <;> rfl
      have ev : V.peekV = (V.f V.next).getD 0 := by rw [Win.peekV]; cases V.f V.next <;> rfl
      refine mJoin_cut (fun s Hk => s = false ∧ Hk = H7) ?_ ?_
      rotate_left
      · intro j60 hj6
        refine mIf_neg (by rw [ep]; simp) (mJoin_intro (mIf_intro (fun _ => S_mapGet h7' 2 rfl (hj6 _ _ ⟨?_, rfl⟩)) (fun _ => hj6 _ _ ⟨rfl, rfl⟩)))
        rw [hfn, ev]; simp
      rintro _ H7 ⟨rfl, rfl⟩
      refine mIf_neg rfl (mIf_intro (fun cp => ?_) (fun cp => ?_))
      · have e : V.pop = V := by rw [Win.pop, if_neg (by simpa using cp)]
        rw [e] at h7'
        exact hj _ _ ⟨V, f, rfl, hVs, by omega, hVf, h7'⟩
      · have e : V.pop = { V.cut with next := V.next + 1 } := by rw [Win.pop, if_pos (by simpa using cp)]
        rw [e] at h7'
        have wV := (h7'.get 1 rfl : WinAt H7 a s { V.cut with next := V.next + 1 }).ok.n1
        rw [show IntKind.wrap .i64 ((z : Int) + 1) = ((z + 1 : Nat) : Int) from wrap_succ (by omega), wrap64_id (x := V.next + 1) (by have : (1 : Int) ≤ V.next + 1 := wV; omega) (by omega)]
        refine hag2 hz20 _ _ ⟨{ V.cut with next := V.next + 1 }, f, rfl, hVs, by show V.next + 1 ≤ _; push_cast; omega, fun j hj' => ?_, h7'⟩
        replace hj' : V.next + 1 ≤ j := hj'
        show f j = if j = V.next then none else V.f j
        rw [if_neg (by omega)]
        exact hVf j (by omega)
  · intro j37 hj
    have stay : W.putE (1 + y) ≠ 0 → W.put (1 + y) k = W := fun h => by rw [Win.put, if_neg h]
    simp only []
    refine mJoin_cut (fun sb Hk => sb = decide (1 + y < W.next ∨ (f (1 + y)).isSome = true) ∧ Hk = H4) ?_ ?_
    rotate_left
    · intro j75 hj7
      refine mIf_intro (fun c1 => hj7 _ _ ⟨?_, rfl⟩) (fun c1 => hj7 _ _ ⟨?_, rfl⟩)
      · rw [decide_eq_true (.inl (of_decide_eq_true c1))]
      · have c1' := of_decide_eq_false c1
        cases hfy : (f (1 + y)).isSome with
        | true => rw [decide_eq_true (.inr rfl)]
        | false => rw [decide_eq_false (by simp; omega)]
    rintro _ H4 ⟨rfl, rfl⟩
    refine mIf_intro (fun c1 => ?_) (fun c1 => ?_)
    · have c1' := of_decide_eq_true c1
      have e9 : W.putE (1 + y) = 9 := by
        rw [Win.putE]
        by_cases h : 1 + y < W.next
        · rw [if_pos h]
        · have hsome : (f (1 + y)).isSome = true := c1'.resolve_left h
          rw [hf (1 + y) (by omega)] at hsome
          have hin : ¬ (W.next + W.size ≤ 1 + y) := fun hh => by
            rw [wout (1 + y) (.inr hh)] at hsome; cases hsome
          rw [if_neg h, if_neg hin, if_pos hsome]
      rw [stay (by rw [e9]; decide)] at h4'
      exact mIf_neg (by rw [e9]; rfl) (hj _ _ ⟨W, f, rfl, hN, hf, h4'⟩)
    · have c1' := of_decide_eq_false c1
      have hlt : ¬ 1 + y < W.next := fun h => c1' (.inl h)
      have hsome : ¬ (f (1 + y)).isSome = true := fun h => c1' (.inr h)
      rw [hf (1 + y) (by omega)] at hsome
      rw [wrap64_id (x := W.next + (N : Int)) (by omega) (by omega)]
      refine mIf_intro (fun c2 => ?_) (fun c2 => ?_)
      · have c2' := of_decide_eq_true c2
        have e10 : W.putE (1 + y) = 10 := by rw [Win.putE, if_neg hlt, if_pos (by rw [hN]; exact c2')]
        rw [stay (by rw [e10]; decide)] at h4'
        exact mIf_neg (by rw [e10]; rfl) (hj _ _ ⟨W, f, rfl, hN, hf, h4'⟩)
      · have c2' := of_decide_eq_false c2
        have e0 : W.putE (1 + y) = 0 := by rw [Win.putE, if_neg hlt, if_neg (by rw [hN]; exact c2'), if_neg hsome]
        refine mIf_neg (by rw [e0]; rfl) (S_mapPut h4' 2 rfl fun H5 h5 => hj _ _ ⟨W.put (1 + y) k, _, ?_, ?_, ?_, h5⟩)
        · rw [Win.put, if_pos e0]
        · rw [Win.put, if_pos e0]; exact hN
        · rw [Win.put, if_pos e0]
          intro j hj'
          replace hj' : W.next ≤ j := hj'
          show (if j = 1 + y then some (k : Int) else f j) = if j = 1 + y then some (k : Int) else W.f j
          rw [hf j hj']
end Go.Proofs.Ytegnpplffhkjhaa

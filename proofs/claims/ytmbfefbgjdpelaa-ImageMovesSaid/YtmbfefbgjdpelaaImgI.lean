/- image: THE LAW ImageStands, on formulas. -/
import Derived.Test.YtmbfefbgjdpelaaImgH
set_option linter.unusedVariables false
set_option linter.unusedSimpArgs false
namespace Go.Proofs.Ytmbfefbgjdpelaa
open Go Go.Kx PInt
abbrev Act3 := Int × Int × Int
def enc3 (x : Act3) : List Value := [.int .i64 x.1, .int .i64 x.2.1, .int .i64 x.2.2]
section
variable {H : PH} {s : Sl} {l : List Act3} {i : Int} {x : Act3} {K : Int → Prop}
theorem dk (h : ListN enc3 3 H s l) (h0 : 0 ≤ i) (h1 : i < l.length) (hx : l[i.toNat]? = some x) (hK : K x.1) : mIdx s 3 i fun a => mLd (.int .i64) H (a.add 0) K :=
  idxL h h0 h1 fun a y hy hc => by rw [hx] at hy; cases hy; exact ⟨x.1, cells_at hc rfl, hK⟩
theorem db (h : ListN enc3 3 H s l) (h0 : 0 ≤ i) (h1 : i < l.length) (hx : l[i.toNat]? = some x) (hK : K x.2.1) : mIdx s 3 i fun a => mLd (.int .i64) H (a.add 1) K :=
  idxL h h0 h1 fun a y hy hc => by rw [hx] at hy; cases hy; exact ⟨x.2.1, cells_at hc rfl, hK⟩
theorem dn (h : ListN enc3 3 H s l) (h0 : 0 ≤ i) (h1 : i < l.length) (hx : l[i.toNat]? = some x) (hK : K x.2.2) : mIdx s 3 i fun a => mLd (.int .i64) H (a.add 2) K :=
  idxL h h0 h1 fun a y hy hc => by rw [hx] at hy; cases hy; exact ⟨x.2.2, cells_at hc rfl, hK⟩
end
theorem getG_set {l : List Int} {i : Nat} {x : Int} (hi : i < l.length) (j : Int) : getG (l.set i x) j = if j = i then x else getG l j := by
  unfold getG
  rw [List.length_set]
  by_cases h : 0 ≤ j ∧ j < l.length
  · rw [if_pos h, if_pos h]
    by_cases e : j = i
    · subst e; simp [List.getD, List.getElem?_set_self hi]
    · rw [if_neg e]
      simp [List.getD, List.getElem?_set_ne (show i ≠ j.toNat by omega)]
  · rw [if_neg h, if_neg h, if_neg (by omega)]
theorem getG_setL {l : List Int} {b x : Int} (h0 : 0 ≤ b) (h1 : b < l.length) (j : Int) : getG (setL ne l b x) j = if j = b then x else getG l j := by
  rw [setL_in h0 h1, getG_set (by omega)]
  have : (b.toNat : Int) = b := Int.toNat_of_nonneg h0
  rw [this]
theorem getG_some {l : List Int} {i : Nat} (h : i < l.length) : l[i]? = some (getG l i) := by
  rw [getG, if_pos ⟨by omega, by omega⟩]; simp [List.getD, h]
section
variable {M : Im} {n : Nat}
theorem nnT (ok : ImOk n M) {b : Int} (h0 : 0 ≤ b) : ∀ i : Nat, b + i ≤ n → (nnTo true b M i).1.l0 = M.l0 ∧ ∀ j, getG (nnTo true b M i).1.l1 j = if b ≤ j ∧ j < b + i then 0 else getG M.l1 j
  | 0, _ => ⟨rfl, fun j => by rw [if_neg (by omega)]; rfl⟩
  | i + 1, h => by
    obtain ⟨e1, e2⟩ := nnT ok h0 i (by omega)
    have k1 := (nn_ok (over := true) (b := b) ok i).1.n1
    refine ⟨e1, fun j => ?_⟩
    show getG (setL ne (nnTo true b M i).1.l1 (b + i) 0) j = _
    rw [getG_setL (by omega) (by omega), e2]
    push_cast
    by_cases c : j = b + i
    · rw [if_pos c, if_pos (by omega)]
    · rw [if_neg c]
      by_cases c2 : b ≤ j ∧ j < b + i
      · rw [if_pos c2, if_pos (by omega)]
      · rw [if_neg c2, if_neg (by omega)]
theorem nnF (ok : ImOk n M) {b : Int} (h0 : 0 ≤ b) : ∀ i : Nat, b + i ≤ n → (nnTo false b M i).1.l1 = M.l1 ∧ ∀ j, getG (nnTo false b M i).1.l0 j = if b ≤ j ∧ j < b + i then 0 else getG M.l0 j
  | 0, _ => ⟨rfl, fun j => by rw [if_neg (by omega)]; rfl⟩
  | i + 1, h => by
    obtain ⟨e1, e2⟩ := nnF ok h0 i (by omega)
    have k1 := (nn_ok (over := false) (b := b) ok i).1.n0
    refine ⟨e1, fun j => ?_⟩
    show getG (setL ne (nnTo false b M i).1.l0 (b + i) 0) j = _
    rw [getG_setL (by omega) (by omega), e2]
    push_cast
    by_cases c : j = b + i
    · rw [if_pos c, if_pos (by omega)]
    · rw [if_neg c]
      by_cases c2 : b ≤ j ∧ j < b + i
      · rw [if_pos c2, if_pos (by omega)]
      · rw [if_neg c2, if_neg (by omega)]
theorem cmG (ok : ImOk n M) : ∀ i : Nat, i ≤ n → ∀ j : Int, getG (cmTo M i).1.l0 j = (if 0 ≤ j ∧ j < i ∧ getG M.l1 j ≠ -1 then getG M.l1 j else getG M.l0 j) ∧ getG (cmTo M i).1.l1 j = if 0 ≤ j ∧ j < i then -1 else getG M.l1 j
  | 0, _, j => ⟨by rw [if_neg (by omega)]; rfl, by rw [if_neg (by omega)]; rfl⟩
  | i + 1, h, j => by
    have ih := cmG ok i (by omega)
    obtain ⟨e1, e2⟩ := ih j
    have k0 := (cm_ok ok i).1.n0
    have k1 := (cm_ok ok i).1.n1
    have ei : getG (cmTo M i).1.l1 i = getG M.l1 i := by rw [(ih i).2, if_neg (by omega)]
    rw [cmTo, cmStep, ei]
    by_cases c : getG M.l1 i = -1
    · rw [if_pos c, e1, e2]
      refine ⟨?_, ?_⟩
      · by_cases c2 : 0 ≤ j ∧ j < i ∧ getG M.l1 j ≠ -1
        · rw [if_pos c2, if_pos ⟨c2.1, by omega, c2.2.2⟩]
        · rw [if_neg c2, if_neg]
          rintro ⟨a1, a2, a3⟩
          by_cases e : j = i
          · subst e; exact a3 c
          · exact c2 ⟨a1, by omega, a3⟩
      · by_cases e : j = i
        · subst e; rw [if_neg (by omega), if_pos (by omega)]; exact c
        · by_cases c2 : 0 ≤ j ∧ j < i
          · rw [if_pos c2, if_pos (by omega)]
          · rw [if_neg c2, if_neg (by omega)]
    · rw [if_neg c]
      refine ⟨?_, ?_⟩
      · show getG (setL ne (cmTo M i).1.l0 i (getG M.l1 i)) j = _
        rw [getG_setL (by omega) (by omega), e1]
        by_cases e : j = i
        · subst e; rw [if_pos rfl, if_pos ⟨by omega, by omega, c⟩]
        · rw [if_neg e]
          by_cases c2 : 0 ≤ j ∧ j < i ∧ getG M.l1 j ≠ -1
          · rw [if_pos c2, if_pos ⟨c2.1, by omega, c2.2.2⟩]
          · rw [if_neg c2, if_neg]
            rintro ⟨a1, a2, a3⟩
            exact c2 ⟨a1, by omega, a3⟩
      · show getG (setL ne (cmTo M i).1.l1 i (-1)) j = _
        rw [getG_setL (by omega) (by omega), e2]
        by_cases e : j = i
        · subst e; rw [if_pos rfl, if_pos (by omega)]
        · rw [if_neg e]
          by_cases c2 : 0 ≤ j ∧ j < i
          · rw [if_pos c2, if_pos (by omega)]
          · rw [if_neg c2, if_neg (by omega)]
theorem fgG (ok : ImOk n M) : ∀ i : Nat, i ≤ n → (fgTo M i).1.l0 = M.l0 ∧ ∀ j : Int, getG (fgTo M i).1.l1 j = if 0 ≤ j ∧ j < i then -1 else getG M.l1 j
  | 0, _ => ⟨rfl, fun j => by rw [if_neg (by omega)]; rfl⟩
  | i + 1, h => by
    obtain ⟨e1, e2⟩ := fgG ok i (by omega)
    have k1 := (fg_ok ok i).1.n1
    refine ⟨e1, fun j => ?_⟩
    show getG (setL ne (fgTo M i).1.l1 i (-1)) j = _
    rw [getG_setL (by omega) (by omega), e2]
    by_cases e : j = i
    · subst e; rw [if_pos rfl, if_pos (by omega)]
    · rw [if_neg e]
      by_cases c2 : 0 ≤ j ∧ j < i
      · rw [if_pos c2, if_pos (by omega)]
      · rw [if_neg c2, if_neg (by omega)]
end
/-- What the law's own lists say of the image: before its look (k and on), and after. -/
def StP (kind : Int) (M : Im) (u w : List Int) (j : Int) : Prop :=
  getG M.l0 j = (if kind = 3 ∧ 0 ≤ getG w j then getG w j else getG u j) ∧ getG M.l1 j = (if kind = 3 ∨ kind = 4 then -1 else getG w j) ∧ -1 ≤ getG w j
theorem StP.other {kind : Int} {M : Im} {u w : List Int} {j : Int} (h3 : kind ≠ 3) (h4 : kind ≠ 4) (e1 : getG M.l0 j = getG u j) (e2 : getG M.l1 j = getG w j) (p : -1 ≤ getG w j) : StP kind M u w j := by
  unfold StP
  rw [if_neg (fun h => h3 h.1), if_neg (fun h => h.elim h3 h4)]
  exact ⟨e1, e2, p⟩
theorem pend_succ {l : List Int} {k : Nat} {x : Int} (h : l[k]? = some x) : pendN (l.take (k + 1)) = pendN (l.take k) + if x = -1 then 0 else 1 := by
  have e2 : l.take (k + 1) = l.take k ++ [x] := by rw [List.take_add_one, h]; rfl
  rw [e2, pendN, List.countP_append, List.countP_singleton]
  by_cases c : x = -1
  · rw [if_pos c, if_neg (by simp [c])]; rfl
  · rw [if_neg c, if_pos (by simp [c])]; rfl
theorem stands_law {H : PH} {p0 : Int} {s1 : Sl} {l1 : List Act3} (h1 : ListN enc3 3 H s1 l1) : keelsonlaw16_ImageStands p0 s1 H (DoneD H) := by
  have hawake : ∀ H2, Ext H H2 → keelsonlaw16_awake H2 (DoneD H) := fun H2 x2 => awake_spec fun H3 x3 => ⟨rfl, x2.trans x3⟩
  have hl1 := h1.lenI
  refine mJoin_intro (mIf_intro (fun _ => mJoin_intro (mIf_pos rfl (mIf_pos rfl (hawake H (.refl H))))) (fun c0 => ?_))
  refine mJoin_intro (mIf_intro (fun _ => mIf_pos rfl (hawake H (.refl H))) (fun c1 => mIf_intro (fun _ => hawake H (.refl H)) (fun c2 => ?_)))
  have hp1 : 1 ≤ p0 := by simp at c0; omega
  have hp2 : p0 ≤ 64 := by simp at c1; omega
  have hl : l1.length ≤ 60 := by simp at c2; omega
  obtain ⟨n, rfl⟩ := Int.eq_ofNat_of_zero_le (show 0 ≤ p0 by omega)
  refine inew_froz (Stars.start H) ⟨by omega, by omega⟩ fun B a b o s0 t0 s1' t1 H1 xB r h2 => mIf_neg rfl ⟨⟨by omega, Int.le_refl _, by omega⟩, ⟨by omega, Int.le_refl _, by omega⟩, ?_⟩
  refine S_mkSI (enc := E) (x := (0 : Int)) h2 fun q H3 h3 x3 => S_mkSI (enc := E) (x := (0 : Int)) h3 fun q' H4 h4 x4 => ?_
  rw [Int.toNat_natCast] at h4
  have hx : ∀ {H' L}, Stars H' (baseO B :: L) → Ext H H' := fun h => xB.trans h.base
  have ok0 : ImOk n (im0 n) := im0_ok ⟨by omega, by omega⟩
  have g0 : ∀ j : Int, getG (im0 n).l0 j = 0 := fun j => by
    show getG (List.replicate n 0) j = 0
    unfold getG; split
    · rw [List.getD, List.getElem?_replicate]; split <;> rfl
    · rfl
  have g1 : ∀ j : Int, 0 ≤ j → j < n → getG (im0 n).l1 j = -1 := fun j a1 a2 => by
    show getG (List.replicate n (-1)) j = -1
    unfold getG
    rw [if_pos ⟨a1, by rw [List.length_replicate]; exact a2⟩, List.getD, List.getElem?_replicate, if_pos (by omega)]; rfl
  have g2 : ∀ j : Int, getG (List.replicate n (0 : Int)) j = 0 := g0
  refine mLoop_count n (fun k st Hk => st = (k : Int) ∧ ∃ w : List Int, w.length = n ∧ (∀ j : Int, 0 ≤ j → j < k → getG w j = -1) ∧ Stars Hk (baseO B :: (imO s0 t0 s1' t1 (im0 n) ++ [vecO E q (List.replicate n 0), vecO E q' w]))) ⟨rfl, _, List.length_replicate, fun j a1 a2 => absurd a2 (by omega), h4⟩ ?_
  clear h2 h3 h4 x3 x4
  rintro k st H5 again hk ⟨rfl, w, hw, gw, h5⟩ hag
  refine mIf_intro (fun c => ?_) (fun c => ?_)
  · have hkn : k < n := by simpa using c
    refine S_put (enc := E) (x := (-1 : Int)) h5 6 rfl (by omega) (by omega) rfl fun H6 h6 => ?_
    rw [wrap_succ (by omega)]
    refine hag hkn _ _ ⟨rfl, w.set k (-1), by rw [List.length_set]; exact hw, fun j a1 a2 => ?_, h6⟩
    rw [getG_set (by omega)]
    by_cases e : j = k
    · rw [if_pos e]
    · rw [if_neg e]; exact gw j a1 (by omega)
  have hkn : k = n := by simp at c; omega
  subst hkn
  clear hag again c
  refine mLoop_count l1.length (fun i st Hk => st = (i : Int) ∧ ∃ (u w : List Int) (M : Im), u.length = k ∧ w.length = k ∧ ImOk k M ∧ (∀ j : Int, 0 ≤ j → j < k → getG u j = getG M.l0 j ∧ getG w j = getG M.l1 j ∧ -1 ≤ getG w j) ∧ Stars Hk (baseO B :: (imO s0 t0 s1' t1 M ++ [vecO E q u, vecO E q' w])))
    ⟨rfl, _, w, im0 k, List.length_replicate, hw, ok0, fun j a1 a2 => ⟨by rw [g0, g2], by rw [g1 j a1 a2, gw j a1 a2], by rw [gw j a1 a2]; decide⟩, h5⟩ ?_
  clear h5 hw gw w hk
  rintro i st H5 again hi ⟨rfl, u, w, M, hu, hw, ok, hP, h5⟩ hag
  refine mIf_intro (fun c => ?_) (fun _ => hawake H5 (hx h5))
  have hil : i < l1.length := by simp at c; omega
  obtain ⟨x, hxi⟩ : ∃ x, l1[(i : Int).toNat]? = some x := ⟨_, List.getElem?_eq_getElem (by simpa using hil)⟩
  refine db (h1.ext (hx h5)) (by omega) (by omega) hxi (round_spec (by omega) (by omega) (dn (h1.ext (hx h5)) (by omega) (by omega) hxi ?_))
  have q0 := Int.emod_nonneg x.2.1 (show (k : Int) ≠ 0 by omega)
  have q1 := Int.emod_lt_of_pos x.2.1 (show (0 : Int) < k by omega)
  generalize x.2.1 % (k : Int) = bb at q0 q1 ⊢
  rw [wrap64_id (x := (k : Int) - bb) (by omega) (by omega)]
  refine round_spec (by omega) (by omega) (dk (h1.ext (hx h5)) (by omega) (by omega) hxi ?_)
  have r0 := Int.emod_nonneg x.2.2 (show (k : Int) - bb ≠ 0 by omega)
  have r1 := Int.emod_lt_of_pos x.2.2 (show (0 : Int) < k - bb by omega)
  generalize x.2.2 % ((k : Int) - bb) = nn at r0 r1 ⊢
  rw [wrap64_id (x := 1 + nn) (by omega) (by omega), wrap64_id (x := bb + (1 + nn)) (by omega) (by omega), wrap_succ (k := i) (by omega)]
  obtain ⟨m, hm⟩ := Int.eq_ofNat_of_zero_le (show 0 ≤ 1 + nn by omega)
  rw [hm]
  have hkind : ∀ {H' L} {K : Int → Prop}, Stars H' (baseO B :: L) → K x.1 → mIdx s1 3 i fun a => mLd (.int .i64) H' (a.add 0) K := fun h hK => dk (h1.ext (hx h)) (by omega) (by omega) hxi hK
  refine mJoin_cut (fun _ Hk => ∃ (u w : List Int) (M : Im), u.length = k ∧ w.length = k ∧ ImOk k M ∧ (∀ j : Int, 0 ≤ j → j < k → StP x.1 M u w j) ∧ Stars Hk (baseO B :: (imO s0 t0 s1' t1 M ++ [vecO E q u, vecO E q' w]))) ?_ ?_
  · -- the look
    clear h5 hP ok hw hu c
    clear u w M
    rintro _ H6 ⟨u, w, M, hu, hw, ok, hP, h6⟩
    have m0 := ok.n0; have m1 := ok.n1
    refine mLoop_count k (fun z st Hk => st = ((pendN (M.l1.take z) : Int), (z : Int)) ∧ ∃ u w : List Int, u.length = k ∧ w.length = k ∧ (∀ j : Int, 0 ≤ j → j < z → getG u j = getG M.l0 j ∧ getG w j = getG M.l1 j ∧ -1 ≤ getG w j) ∧ (∀ j : Int, (z : Int) ≤ j → j < k → StP x.1 M u w j) ∧ Stars Hk (baseO B :: (imO s0 t0 s1' t1 M ++ [vecO E q u, vecO E q' w])))
      ⟨by simp [pendN], u, w, hu, hw, fun j a1 a2 => absurd a2 (by omega), fun j a1 a2 => hP j (by omega) a2, h6⟩ ?_
    clear h6 hP hw hu
    clear u w
    rintro z st H7 again2 hz ⟨rfl, u, w, hu, hw, hP, hP2, h7⟩ hag2
    refine mIf_intro (fun c => ?_) (fun c => ?_)
    · have hzk : z < k := by simpa using c
      obtain ⟨p1, p2, p3⟩ := hP2 z (Int.le_refl _) (by omega)
      have lu : u[(z : Int).toNat]? = some (getG u z) := getG_some (by omega)
      have lw : w[(z : Int).toNat]? = some (getG w z) := getG_some (by omega)
      have rdu : ∀ {H' L} {K : Int → Prop}, Stars H' L → L[5]? = some (vecO E q u) → K (getG u z) → mIdx q 1 z fun a => mLd (.int .i64) H' a K := fun h hL hK => idx_ld (h.list (enc := E) 5 hL) (by omega) (by omega) fun y hy => by rw [lu] at hy; cases hy; exact hK
      have rdw : ∀ {H' L} {K : Int → Prop}, Stars H' L → L[6]? = some (vecO E q' w) → K (getG w z) → mIdx q' 1 z fun a => mLd (.int .i64) H' a K := fun h hL hK => idx_ld (h.list (enc := E) 6 hL) (by omega) (by omega) fun y hy => by rw [lw] at hy; cases hy; exact hK
      refine rdw h7 rfl ?_
      refine mJoin_cut (fun s Hk => s = decide (x.1 = 3 ∧ 0 ≤ getG w z) ∧ Hk = H7) ?_ ?_
      rotate_left
      · intro j70 hj
        refine mIf_intro (fun c => hkind h7 (hj _ _ ⟨?_, rfl⟩)) (fun c => hj _ _ ⟨?_, rfl⟩)
        · have c' : 0 ≤ getG w z := by simpa using c
          simp [c', Bool.beq_eq_decide_eq]
        · have c' : ¬ 0 ≤ getG w z := by simpa using c
          rw [decide_eq_false (fun h => c' h.2)]
      rintro _ _ ⟨rfl, rfl⟩
      refine mJoin_cut (fun _ Hk => ∃ u' : List Int, u'.length = k ∧ getG u' z = getG M.l0 z ∧ (∀ j : Int, j ≠ z → getG u' j = getG u j) ∧ Stars Hk (baseO B :: (imO s0 t0 s1' t1 M ++ [vecO E q u', vecO E q' w]))) ?_ ?_
      rotate_left
      · intro j74 hj
        refine mIf_intro (fun c => rdw h7 rfl (S_put (enc := E) h7 5 rfl (by omega) (by omega) rfl fun H8 h8 => hj _ _ ⟨u.set z (getG w z), by rw [List.length_set]; exact hu, ?_, fun j hne => ?_, h8⟩)) (fun c => hj _ _ ⟨u, hu, ?_, fun _ _ => rfl, h7⟩)
        · rw [getG_set (by omega), if_pos rfl, p1, if_pos (by simpa using c)]
        · rw [getG_set (by omega), if_neg hne]
        · rw [p1, if_neg (by simpa using c)]
      rintro _ H8 ⟨u', hu', gu, gu', h8⟩
      refine hkind h8 ?_
      refine mJoin_cut (fun s Hk => s = decide (x.1 = 3 ∨ x.1 = 4) ∧ Hk = H8) ?_ ?_
      rotate_left
      · intro j83 hj
        refine mIf_intro (fun c => hj _ _ ⟨?_, rfl⟩) (fun c => hkind h8 (hj _ _ ⟨?_, rfl⟩))
        · have c' : x.1 = 3 := by simpa using c
          rw [decide_eq_true (.inl c')]
        · have c' : ¬ x.1 = 3 := by simpa using c
          simp [c', Bool.beq_eq_decide_eq]
      rintro _ _ ⟨rfl, rfl⟩
      refine mJoin_cut (fun _ Hk => ∃ w' : List Int, w'.length = k ∧ getG w' z = getG M.l1 z ∧ (∀ j : Int, j ≠ z → getG w' j = getG w j) ∧ Stars Hk (baseO B :: (imO s0 t0 s1' t1 M ++ [vecO E q u', vecO E q' w']))) ?_ ?_
      rotate_left
      · intro j87 hj
        refine mIf_intro (fun c => S_put (enc := E) (x := (-1 : Int)) h8 6 rfl (by omega) (by omega) rfl fun H9 h9 => hj _ _ ⟨w.set z (-1), by rw [List.length_set]; exact hw, ?_, fun j hne => ?_, h9⟩) (fun c => hj _ _ ⟨w, hw, ?_, fun _ _ => rfl, h8⟩)
        · rw [getG_set (by omega), if_pos rfl, p2, if_pos (by simpa using c)]
        · rw [getG_set (by omega), if_neg hne]
        · rw [p2, if_neg (by simpa using c)]
      rintro _ H9 ⟨w', hw', gw, gw', h9⟩
      have p4 : -1 ≤ getG M.l1 z := by rw [p2]; split <;> omega
      have lu' : u'[(z : Int).toNat]? = some (getG M.l0 z) := by rw [← gu]; exact getG_some (by omega)
      have lw' : w'[(z : Int).toNat]? = some (getG M.l1 z) := by rw [← gw]; exact getG_some (by omega)
      have rdu' : ∀ {H' L} {K : Int → Prop}, Stars H' L → L[5]? = some (vecO E q u') → K (getG M.l0 z) → mIdx q 1 z fun a => mLd (.int .i64) H' a K := fun h hL hK => idx_ld (h.list (enc := E) 5 hL) (by omega) (by omega) fun y hy => by rw [lu'] at hy; cases hy; exact hK
      have rdw' : ∀ {H' L} {K : Int → Prop}, Stars H' L → L[6]? = some (vecO E q' w') → K (getG M.l1 z) → mIdx q' 1 z fun a => mLd (.int .i64) H' a K := fun h hL hK => idx_ld (h.list (enc := E) 6 hL) (by omega) (by omega) fun y hy => by rw [lw'] at hy; cases hy; exact hK
      refine rdu' h9 rfl (rdw' h9 rfl ?_)
      have ps := pend_succ (l := M.l1) (k := z) (x := getG M.l1 z) (getG_some (by omega))
      have ple : pendN (M.l1.take z) ≤ z := Nat.le_trans List.countP_le_length (by rw [List.length_take]; omega)
      refine mJoin_cut (fun s Hk => s = ((pendN (M.l1.take (z + 1)) : Int), lookV M z) ∧ Hk = H9) ?_ ?_
      rotate_left
      · intro j99 hj
        refine mIf_intro (fun c => rdw' h9 rfl (hj _ _ ⟨?_, rfl⟩)) (fun c => hj _ _ ⟨?_, rfl⟩)
        · have c' : 0 ≤ getG M.l1 z := by simpa using c
          simp only []
          rw [wrap_succ (by omega), ps, if_neg (by omega), lookV, if_neg (by omega)]
        · have c' : ¬ 0 ≤ getG M.l1 z := by simpa using c
          rw [ps, if_pos (by omega), lookV, if_pos (by omega)]; rfl
      rintro _ _ ⟨rfl, rfl⟩
      refine ref_spec h9 r (look_spec h9 r ok ⟨by omega, by omega⟩ ?_)
      rw [decide_eq_true (show 0 ≤ (z : Int) ∧ (z : Int) < M.l0.length from ⟨by omega, by omega⟩)]
      refine mJoin_intro (mIf_neg rfl (mJoin_intro (mIf_neg rfl (rdu' h9 rfl (mJoin_intro (mIf_neg (by simp) ?_))))))
      rw [show (lookV M z != lookV M z) = false by simp]
      refine mIf_neg rfl ?_
      rw [wrap_succ (by omega)]
      refine hag2 hzk _ _ ⟨rfl, u', w', hu', hw', fun j a1 a2 => ?_, fun j a1 a2 => ?_, h9⟩
      · by_cases e : j = z
        · subst e; exact ⟨gu, gw, by rw [gw]; exact p4⟩
        · rw [gu' j e, gw' j e]; exact hP j a1 (by omega)
      · have e : j ≠ z := by omega
        unfold StP
        rw [gu' j e, gw' j e]; exact hP2 j (by omega) a2
    · have hzk : z = k := by simp at c; omega
      subst hzk
      refine pend_spec h7 r ok fun H8 x8 => mIf_neg ?_ ?_
      · rw [List.take_of_length_le (by omega)]; simp
      exact hag hil _ _ ⟨rfl, u, w, M, hu, hw, ok, fun j a1 a2 => hP j a1 a2, h7.ext x8⟩
  · -- the act
    have m0 := ok.n0; have m1 := ok.n1
    intro j56 hj
    refine mIf_intro (fun c => ?_) (fun n1 => mIf_intro (fun c => ?_) (fun n2 => mIf_intro (fun c => ?_) (fun n3 => mIf_intro (fun c => ?_) (fun n4 => mIf_intro (fun c => ?_) (fun n5 => mIf_intro (fun c => ?_) (fun n6 => ?_))))))
    · have c' : x.1 = 1 := by simpa using c
      refine one_spec (over := true) h5 r ok ⟨q0, q1⟩ ⟨by omega, by omega⟩ fun H6 h6 => S_put (enc := E) h6 6 rfl q0 (by omega) rfl fun H7 h7 => hj _ _ ⟨u, _, _, hu, by rw [List.length_set]; exact hw, ok.put true bb _, fun j a1 a2 => ?_, h7⟩
      obtain ⟨p1, p2, p3⟩ := hP j a1 a2
      have e : getG (w.set bb.toNat (((i + 1 : Nat) : Int))) j = if j = bb then ((i + 1 : Nat) : Int) else getG w j := by rw [getG_set (by omega), Int.toNat_of_nonneg q0]
      refine .other (by omega) (by omega) p1.symm ?_ (by rw [e]; split <;> omega)
      rw [e]
      show getG (setL ne M.l1 bb _) j = _
      rw [getG_setL q0 (by omega), p2]
    · have c' : x.1 = 2 := by simpa using c
      refine none_spec (over := true) (k := m) h5 r ok q0 (by omega) (by omega) fun H6 g h6 => ?_
      have h6' : Stars H6 (baseO B :: (imO s0 t0 s1' t1 (nnTo true bb M m).1 ++ [vecO E q u, vecO E q' w])) := h6.pick [0, 1, 2, 3, 4, 6, 7] (by decide) rfl (by simp [imO])
      refine mLoop_count m (fun z st Hk => st = bb + (z : Int) ∧ ∃ w' : List Int, w'.length = k ∧ (∀ j : Int, getG w' j = if bb ≤ j ∧ j < bb + z then 0 else getG w j) ∧ Stars Hk (baseO B :: (imO s0 t0 s1' t1 (nnTo true bb M m).1 ++ [vecO E q u, vecO E q' w'])))
        ⟨by simp, w, hw, fun j => by rw [if_neg (by omega)], h6'⟩ ?_
      clear h6 h6'
      rintro z st H7 again2 hz ⟨rfl, w', hw', gw, h7⟩ hag2
      refine mIf_intro (fun c => ?_) (fun c => ?_)
      · have hzm : z < m := by have := of_decide_eq_true c; omega
        refine S_put (enc := E) (x := (0 : Int)) h7 6 rfl (by omega) (by omega) rfl fun H8 h8 => ?_
        rw [wrap64_id (x := bb + (z : Int) + 1) (by omega) (by omega)]
        refine hag2 hzm _ _ ⟨by push_cast; omega, _, by rw [List.length_set]; exact hw', fun j => ?_, h8⟩
        rw [getG_set (by omega), Int.toNat_of_nonneg (by omega), gw]
        push_cast
        by_cases e : j = bb + z
        · rw [if_pos e, if_pos (by omega)]
        · rw [if_neg e]
          by_cases e2 : bb ≤ j ∧ j < bb + z
          · rw [if_pos e2, if_pos (by omega)]
          · rw [if_neg e2, if_neg (by omega)]
      · have hzm : z = m := by have := of_decide_eq_false c; omega
        subst hzm
        obtain ⟨f1, f2⟩ := nnT ok q0 z (by omega)
        refine hj _ _ ⟨u, w', _, hu, hw', (nn_ok ok z).1, fun j a1 a2 => ?_, h7⟩
        obtain ⟨p1, p2, p3⟩ := hP j a1 a2
        refine .other (by omega) (by omega) (by rw [f1]; exact p1.symm) (by rw [f2, gw, p2]) (by rw [gw]; split <;> omega)
    · have c' : x.1 = 3 := by simpa using c
      refine commit_spec h5 r ok fun H6 g h6 => hj _ _ ⟨u, w, _, hu, hw, (cm_ok ok k).1, fun j a1 a2 => ?_, h6.pick [0, 1, 2, 3, 4, 6, 7] (by decide) rfl (by simp [imO])⟩
      obtain ⟨p1, p2, p3⟩ := hP j a1 a2
      obtain ⟨f1, f2⟩ := cmG ok k (Nat.le_refl _) j
      unfold StP
      rw [f1, f2, if_pos (show 0 ≤ j ∧ j < (k : Int) from ⟨a1, a2⟩), if_pos (show x.1 = 3 ∨ x.1 = 4 from .inl c'), p1, p2]
      refine ⟨?_, rfl, by omega⟩
      by_cases e : getG M.l1 j = -1
      · rw [if_neg (by omega), if_neg (by omega)]
      · rw [if_pos ⟨a1, a2, e⟩, if_pos ⟨c', by omega⟩]
    · have c' : x.1 = 4 := by simpa using c
      refine forget_spec h5 r ok fun H6 g h6 => hj _ _ ⟨u, w, _, hu, hw, (fg_ok ok k).1, fun j a1 a2 => ?_, h6.pick [0, 1, 2, 3, 4, 6, 7] (by decide) rfl (by simp [imO])⟩
      obtain ⟨p1, p2, p3⟩ := hP j a1 a2
      obtain ⟨f1, f2⟩ := fgG ok k (Nat.le_refl _)
      unfold StP
      rw [f1, f2, if_pos (show 0 ≤ j ∧ j < (k : Int) from ⟨a1, a2⟩), if_pos (show x.1 = 3 ∨ x.1 = 4 from .inr c'), if_neg (by omega)]
      exact ⟨p1.symm, rfl, p3⟩
    · have c' : x.1 = 5 := by simpa using c
      refine one_spec (over := false) h5 r ok ⟨q0, q1⟩ ⟨by omega, by omega⟩ fun H6 h6 => S_put (enc := E) h6 5 rfl q0 (by omega) rfl fun H7 h7 => hj _ _ ⟨_, w, _, by rw [List.length_set]; exact hu, hw, ok.put false bb _, fun j a1 a2 => ?_, h7⟩
      obtain ⟨p1, p2, p3⟩ := hP j a1 a2
      have e : getG (u.set bb.toNat (((i + 1 : Nat) : Int))) j = if j = bb then ((i + 1 : Nat) : Int) else getG u j := by rw [getG_set (by omega), Int.toNat_of_nonneg q0]
      refine .other (by omega) (by omega) ?_ p2.symm p3
      rw [e]
      show getG (setL ne M.l0 bb _) j = _
      rw [getG_setL q0 (by omega), p1]
    · have c' : x.1 = 6 := by simpa using c
      refine none_spec (over := false) (k := m) h5 r ok q0 (by omega) (by omega) fun H6 g h6 => ?_
      have h6' : Stars H6 (baseO B :: (imO s0 t0 s1' t1 (nnTo false bb M m).1 ++ [vecO E q u, vecO E q' w])) := h6.pick [0, 1, 2, 3, 4, 6, 7] (by decide) rfl (by simp [imO])
      refine mLoop_count m (fun z st Hk => st = bb + (z : Int) ∧ ∃ u' : List Int, u'.length = k ∧ (∀ j : Int, getG u' j = if bb ≤ j ∧ j < bb + z then 0 else getG u j) ∧ Stars Hk (baseO B :: (imO s0 t0 s1' t1 (nnTo false bb M m).1 ++ [vecO E q u', vecO E q' w])))
        ⟨by simp, u, hu, fun j => by rw [if_neg (by omega)], h6'⟩ ?_
      clear h6 h6'
      rintro z st H7 again2 hz ⟨rfl, u', hu', gu, h7⟩ hag2
      refine mIf_intro (fun c => ?_) (fun c => ?_)
      · have hzm : z < m := by have := of_decide_eq_true c; omega
        refine S_put (enc := E) (x := (0 : Int)) h7 5 rfl (by omega) (by omega) rfl fun H8 h8 => ?_
        rw [wrap64_id (x := bb + (z : Int) + 1) (by omega) (by omega)]
        refine hag2 hzm _ _ ⟨by push_cast; omega, _, by rw [List.length_set]; exact hu', fun j => ?_, h8⟩
        rw [getG_set (by omega), Int.toNat_of_nonneg (by omega), gu]
        push_cast
        by_cases e : j = bb + z
        · rw [if_pos e, if_pos (by omega)]
        · rw [if_neg e]
          by_cases e2 : bb ≤ j ∧ j < bb + z
          · rw [if_pos e2, if_pos (by omega)]
          · rw [if_neg e2, if_neg (by omega)]
      · have hzm : z = m := by have := of_decide_eq_false c; omega
        subst hzm
        obtain ⟨f1, f2⟩ := nnF ok q0 z (by omega)
        refine hj _ _ ⟨u', w, _, hu', hw, (nn_ok ok z).1, fun j a1 a2 => ?_, h7⟩
        obtain ⟨p1, p2, p3⟩ := hP j a1 a2
        refine .other (by omega) (by omega) (by rw [f2, gu, p1]) (by rw [f1]; exact p2.symm) p3
    · have n3' : ¬ x.1 = 3 := by simpa using n3
      have n4' : ¬ x.1 = 4 := by simpa using n4
      refine hj _ _ ⟨u, w, M, hu, hw, ok, fun j a1 a2 => ?_, h5⟩
      obtain ⟨p1, p2, p3⟩ := hP j a1 a2
      exact .other n3' n4' p1.symm p2.symm p3
end Go.Proofs.Ytmbfefbgjdpelaa

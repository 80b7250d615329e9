/- image: THE LAW ImageMoves, on formulas. -/
import Derived.Test.YtmbfefbgjdpelaaImgJ
set_option linter.unusedVariables false
set_option linter.unusedSimpArgs false
namespace Go.Proofs.Ytmbfefbgjdpelaa
open Go Go.Kx PInt
theorem ld2 {H : PH} {x : Int × Int} {b : Addr} {K : Int × Int → Prop} (hc : cellsAt H b 2 = some (enc2 x)) (hK : K x) : mLdR (fun (x : (Int × Int)) => [.int .i64 x.1, .int .i64 x.2]) H b 2 K := ⟨x, hc, hK⟩
theorem like_spec {H : PH} {s t : Sl} {l m : List (Int × Int)} {Q : Bool → PH → Prop} (hs : ListN enc2 2 H s l) (ht : ListN enc2 2 H t m) (hl : l.length < 2 ^ 60) (hQ : Q (decide (l = m)) H) : keelsonlaw16_like s t H Q := by
  have e1 := hs.lenI
  have e2 := ht.lenI
  refine mIf_intro (fun h => ?_) (fun h => ?_)
  · have : l ≠ m := fun e => by subst e; simp [e1, e2] at h
    rw [decide_eq_false this] at hQ; exact hQ
  · have hlen : l.length = m.length := by simp at h; omega
    refine mLoop_count l.length (fun k s' Hk => s' = (k : Int) ∧ Hk = H ∧ l.take k = m.take k) ⟨rfl, rfl, rfl⟩ ?_
    rintro k s' H2 again hk ⟨rfl, rfl, htk⟩ hag
    refine mIf_intro (fun hlt => ?_) (fun hge => ?_)
    · have hkl : k < l.length := by simp at hlt; omega
      refine idxL hs (by omega) (by omega) fun b x hx hc => ld2 hc (idxL ht (by omega) (by omega) fun b2 y hy hc2 => ld2 hc2 ?_)
      rw [Int.toNat_natCast] at hx hy
      refine mIf_intro (fun hne => ?_) (fun heq => hag hkl _ _ ⟨wrap_succ (by omega), rfl, ?_⟩)
      · have : l ≠ m := fun e => by subst e; rw [hx] at hy; cases hy; simp [andAll] at hne
        rw [decide_eq_false this] at hQ; exact hQ
      · have : x = y := by
          simp [andAll] at heq
          exact Prod.ext heq.1 heq.2
        rw [List.take_add_one, List.take_add_one, hx, hy, htk, this]
    · have : k = l.length := by simp at hge; omega
      subst this
      have : l = m := by rw [List.take_length, hlen, List.take_length] at htk; exact htk
      rw [decide_eq_true this] at hQ; exact hQ
/-- How a ref is told, when one is moved. -/
def mvd (kk : Nat) (old : Int) (p : Int × Int) : Int × Int := if p.1 = kk ∧ p.2 = old then ((kk : Int), 2000) else p
def MvP (i : Nat) (M : Im) (j : Int) : Prop := 0 ≤ getG M.l0 j ∧ getG M.l0 j ≤ i ∧ -1 ≤ getG M.l1 j ∧ getG M.l1 j ≤ i ∧ (1 ≤ getG M.l0 j → getG M.l0 j ≠ getG M.l1 j)
theorem rf_moved {n kk : Nat} {M : Im} {ov : Bool} {old : Int} (ok : ImOk n M) (hk : kk < n) (ho : 1 ≤ old) (hg : getG (M.tab ov) kk = old) (hov : ov = true → getG M.l0 kk ≠ old) (hd : 1 ≤ getG M.l0 kk → getG M.l0 kk ≠ getG M.l1 kk) : ∀ i : Nat, i ≤ n → rfTo (M.put ov kk 2000).l0 (M.put ov kk 2000).l1 i = (rfTo M.l0 M.l1 i).map (mvd kk old)
  | 0, _ => rfl
  | i + 1, h => by
    have ih := rf_moved ok hk ho hg hov hd i (by omega)
    have m0 := ok.n0; have m1 := ok.n1
    have same : ∀ y : Int, (i ≠ kk ∨ y ≠ old) → (rp i y).map (mvd kk old) = rp i y := fun y hy => by
      unfold rp
      split
      · rw [List.map_cons, List.map_nil, mvd, if_neg]
        rintro ⟨a1, a2⟩
        rcases hy with hy | hy
        · exact hy (by have : (i : Int) = kk := a1
                       omega)
        · exact hy a2
      · rfl
    have hit : (rp kk old).map (mvd kk old) = rp kk 2000 := by
      rw [rp, rp, if_pos (by omega), if_pos (by decide), List.map_cons, List.map_nil, mvd, if_pos ⟨rfl, rfl⟩]
    rw [rfTo, rfTo, List.map_append, List.map_append, ih]
    cases ov with
    | true =>
      have hg' : getG M.l1 kk = old := hg
      have e0 : getG (M.put true kk 2000).l0 i = getG M.l0 i := rfl
      have e1 : getG (M.put true kk 2000).l1 i = if (i : Int) = kk then 2000 else getG M.l1 i := getG_setL (by omega) (by omega) i
      rw [e0, e1]
      by_cases e : i = kk
      · subst e
        rw [if_pos rfl, same _ (.inr (hov rfl)), hg', hit]
      · rw [if_neg (by omega), same _ (.inl e), same _ (.inl e)]
    | false =>
      have hg' : getG M.l0 kk = old := hg
      have e1 : getG (M.put false kk 2000).l1 i = getG M.l1 i := rfl
      have e0 : getG (M.put false kk 2000).l0 i = if (i : Int) = kk then 2000 else getG M.l0 i := getG_setL (by omega) (by omega) i
      rw [e0, e1]
      by_cases e : i = kk
      · subst e
        have := hd (by omega)
        rw [if_pos rfl, hg', hit, same (getG M.l1 i) (.inr (by omega))]
      · rw [if_neg (by omega), same _ (.inl e), same _ (.inl e)]
theorem moves_law {H : PH} {p0 p2 p4 : Int} {p3 : Bool} {s1 : Sl} {l1 : List Act3} (h1 : ListN enc3 3 H s1 l1) : keelsonlaw16_ImageMoves p0 s1 p2 p3 p4 H (DoneD H) := by
  have hawake : ∀ H2, Ext H H2 → keelsonlaw16_awake H2 (DoneD H) := fun H2 x2 => awake_spec fun H3 x3 => ⟨rfl, x2.trans x3⟩
  have hl1 := h1.lenI
  refine mJoin_intro (mIf_intro (fun _ => mJoin_intro (mIf_pos rfl (mIf_pos rfl (hawake H (.refl H))))) (fun c0 => ?_))
  refine mJoin_intro (mIf_intro (fun _ => mIf_pos rfl (hawake H (.refl H))) (fun c1 => mIf_intro (fun _ => hawake H (.refl H)) (fun c2 => ?_)))
  have hp1 : 1 ≤ p0 := by simp at c0; omega
  have hp2 : p0 ≤ 64 := by simp at c1; omega
  have hl : l1.length ≤ 40 := by simp at c2; omega
  obtain ⟨n, rfl⟩ := Int.eq_ofNat_of_zero_le (show 0 ≤ p0 by omega)
  refine inew_froz (Stars.start H) ⟨by omega, by omega⟩ fun B a b o s0 t0 s1' t1 H1 xB r h2 => mIf_neg rfl ?_
  have hx : ∀ {H' L}, Stars H' (baseO B :: L) → Ext H H' := fun h => xB.trans h.base
  have ok0 : ImOk n (im0 n) := im0_ok ⟨by omega, by omega⟩
  have g0 : ∀ j : Int, getG (im0 n).l0 j = 0 := fun j => by
    show getG (List.replicate n 0) j = 0
    unfold getG; split
    · rw [List.getD, List.getElem?_replicate]; split <;> rfl
    · rfl
  have g1 : ∀ j : Int, 0 ≤ j → j < n → getG (im0 n).l1 j = -1 := fun j a1 a2 => by
    show getG (List.replicate n (-1)) j = -1
    unfold getG
    rw [if_pos ⟨a1, by rw [List.length_replicate]; exact a2⟩, List.getD, List.getElem?_replicate, if_pos (by omega)]; rfl
  refine mLoop_count l1.length (fun i st Hk => st = (i : Int) ∧ ∃ M : Im, ImOk n M ∧ (∀ j : Int, 0 ≤ j → j < n → MvP i M j) ∧ Stars Hk (baseO B :: (imO s0 t0 s1' t1 M ++ []))) ⟨rfl, im0 n, ok0, fun j a1 a2 => by unfold MvP; rw [g0, g1 j a1 a2]; exact ⟨Int.le_refl _, by omega, by omega, by omega, by decide⟩, h2⟩ ?_
  clear h2
  rintro i st H5 again hi ⟨rfl, M, ok, hP, h5⟩ hag
  have m0 := ok.n0; have m1 := ok.n1
  refine mIf_intro (fun c => ?_) (fun cend => ?_)
  · have hil : i < l1.length := by simp at c; omega
    obtain ⟨x, hxi⟩ : ∃ x, l1[(i : Int).toNat]? = some x := ⟨_, List.getElem?_eq_getElem (by simpa using hil)⟩
    refine mJoin_cut (fun _ Hk => ∃ M : Im, ImOk n M ∧ (∀ j : Int, 0 ≤ j → j < n → MvP (i + 1) M j) ∧ Stars Hk (baseO B :: (imO s0 t0 s1' t1 M ++ []))) ?_ ?_
    · rintro _ H6 ⟨M', ok', hP', h6⟩
      rw [wrap_succ (by omega)]
      exact hag hil _ _ ⟨rfl, M', ok', hP', h6⟩
    intro j23 hj
    refine db (h1.ext (hx h5)) (by omega) (by omega) hxi (round_spec (by omega) (by omega) (dk (h1.ext (hx h5)) (by omega) (by omega) hxi ?_))
    have q0 := Int.emod_nonneg x.2.1 (show (n : Int) ≠ 0 by omega)
    have q1 := Int.emod_lt_of_pos x.2.1 (show (0 : Int) < n by omega)
    generalize x.2.1 % (n : Int) = bb at q0 q1 ⊢
    rw [wrap_succ (k := i) (by omega)]
    refine mIf_intro (fun c => ?_) (fun n1 => mIf_intro (fun c => ?_) (fun n2 => mIf_intro (fun c => ?_) (fun n3 => mIf_intro (fun c => ?_) (fun n4 => ?_))))
    · refine one_spec (over := true) h5 r ok ⟨q0, q1⟩ ⟨by omega, by omega⟩ fun H6 h6 => hj _ _ ⟨_, ok.put true bb _, fun j a1 a2 => ?_, h6⟩
      obtain ⟨p1, p2, p3, p4, p5⟩ := hP j a1 a2
      have e0 : getG (M.put true bb ((i + 1 : Nat) : Int)).l0 j = getG M.l0 j := rfl
      have e1 : getG (M.put true bb ((i + 1 : Nat) : Int)).l1 j = if j = bb then ((i + 1 : Nat) : Int) else getG M.l1 j := getG_setL q0 (by omega) j
      unfold MvP
      rw [e0, e1]
      refine ⟨p1, by omega, by split <;> omega, by split <;> omega, fun h => ?_⟩
      split
      · omega
      · exact p5 h
    · refine none_spec (over := true) (k := 1) h5 r ok q0 (by omega) (by omega) fun H6 g h6 => hj _ _ ⟨_, (nn_ok ok 1).1, fun j a1 a2 => ?_, h6.pick [0, 1, 2, 3, 4] (by decide) rfl (by simp [imO])⟩
      obtain ⟨p1, p2, p3, p4, p5⟩ := hP j a1 a2
      obtain ⟨f1, f2⟩ := nnT ok q0 1 (by omega)
      unfold MvP
      rw [f1, f2]
      refine ⟨p1, by omega, by split <;> omega, by split <;> omega, fun h => ?_⟩
      split
      · omega
      · exact p5 h
    · refine commit_spec h5 r ok fun H6 g h6 => hj _ _ ⟨_, (cm_ok ok n).1, fun j a1 a2 => ?_, h6.pick [0, 1, 2, 3, 4] (by decide) rfl (by simp [imO])⟩
      obtain ⟨p1, p2, p3, p4, p5⟩ := hP j a1 a2
      obtain ⟨f1, f2⟩ := cmG ok n (Nat.le_refl _) j
      unfold MvP
      rw [f1, f2, if_pos (show 0 ≤ j ∧ j < (n : Int) from ⟨a1, a2⟩)]
      by_cases e : getG M.l1 j = -1
      · rw [if_neg (by omega)]
        exact ⟨p1, by omega, by omega, by omega, fun h => by omega⟩
      · rw [if_pos ⟨a1, a2, e⟩]
        exact ⟨by omega, by omega, by omega, by omega, fun h => by omega⟩
    · refine one_spec (over := false) h5 r ok ⟨q0, q1⟩ ⟨by omega, by omega⟩ fun H6 h6 => hj _ _ ⟨_, ok.put false bb _, fun j a1 a2 => ?_, h6⟩
      obtain ⟨p1, p2, p3, p4, p5⟩ := hP j a1 a2
      have e1 : getG (M.put false bb ((i + 1 : Nat) : Int)).l1 j = getG M.l1 j := rfl
      have e0 : getG (M.put false bb ((i + 1 : Nat) : Int)).l0 j = if j = bb then ((i + 1 : Nat) : Int) else getG M.l0 j := getG_setL q0 (by omega) j
      unfold MvP
      rw [e0, e1]
      refine ⟨by split <;> omega, by split <;> omega, p3, by omega, ?_⟩
      split
      · omega
      · exact p5
    · refine hj _ _ ⟨M, ok, fun j a1 a2 => ?_, h5⟩
      obtain ⟨p1, p2, p3, p4, p5⟩ := hP j a1 a2
      exact ⟨p1, by omega, p3, by omega, p5⟩
  clear hag again
  have q0 := Int.emod_nonneg p2 (show (n : Int) ≠ 0 by omega)
  have q1 := Int.emod_lt_of_pos p2 (show (0 : Int) < n by omega)
  have w0 := Int.emod_nonneg p4 (show (500 : Int) ≠ 0 by decide)
  have w1 := Int.emod_lt_of_pos p4 (show (0 : Int) < 500 by decide)
  refine round_spec (by omega) (by omega) ?_
  obtain ⟨kk, hkk⟩ := Int.eq_ofNat_of_zero_le q0
  rw [hkk] at q1 ⊢
  have hkn : kk < n := by omega
  obtain ⟨z1, z2, z3, z4, z5⟩ := hP kk (by omega) q1
  refine refs_spec (r.ext h5.base) (h5.list 1 rfl) (h5.list 3 rfl) m0 m1 (by omega) fun y H6 h6' => ?_
  have h6 : Stars H6 (baseO B :: (imO s0 t0 s1' t1 M ++ [vecNO enc2 2 y (rfTo M.l0 M.l1 n)])) := h5.over h6'
  clear h6'
  have hlen := rf_len M.l0 M.l1 n
  refine round_spec (by decide) (by decide) ?_
  rw [wrap64_id (x := 500 + p4 % 500) (by omega) (by omega)]
  -- the same refs still
  have again3 : ∀ {H7} {K : Bool → PH → Prop}, Stars H7 (baseO B :: (imO s0 t0 s1' t1 M ++ [vecNO enc2 2 y (rfTo M.l0 M.l1 n)])) → (∀ H8, Stars H8 (baseO B :: (imO s0 t0 s1' t1 M ++ [vecNO enc2 2 y (rfTo M.l0 M.l1 n)])) → K true H8) → keelsonlaw16_refs (some a) 300 H7 fun y140 H139 => keelsonlaw16_like y140 y H139 K := fun {H7 K} h7 hK => by
    refine refs_spec (r.ext h7.base) (h7.list 1 rfl) (h7.list 3 rfl) m0 m1 (by omega) fun y2 H8 h8' => ?_
    have h8 := h7.over h8'
    have v1 : VecN enc2 2 H8 y2 (rfTo M.l0 M.l1 n) := h8.get 6 rfl
    have v2 : VecN enc2 2 H8 y (rfTo M.l0 M.l1 n) := h8.get 5 rfl
    refine like_spec (v1.listN len2) (v2.listN len2) (by omega) ?_
    rw [decide_eq_true rfl]
    exact hK H8 (h8.pick [0, 1, 2, 3, 4, 5] (by decide) rfl (by simp [imO]))
  refine move_spec h6 r ok ⟨by omega, q1⟩ (fun _ => ?_) (fun ov H7 ho hg _ _ => ?_)
  rotate_left
  · exfalso
    cases ov with
    | true => have e : getG M.l1 kk = 500 + p4 % 500 := hg
              omega
    | false => have e : getG M.l0 kk = 500 + p4 % 500 := hg
               omega
  refine mJoin_cut (fun s Hk => s = false ∧ Stars Hk (baseO B :: (imO s0 t0 s1' t1 M ++ [vecNO enc2 2 y (rfTo M.l0 M.l1 n)]))) ?_ ?_
  rotate_left
  · intro j61 hj
    exact mIf_neg rfl (again3 h6 fun H8 h8 => hj _ _ ⟨rfl, h8⟩)
  rintro _ H7 ⟨rfl, h7⟩
  clear h6
  refine mIf_neg rfl (ref_spec h7 r (mJoin_cut (fun s Hk => s = (if p3 then lookV M kk else getG M.l0 kk) ∧ Hk = H7) ?_ ?_))
  rotate_left
  · intro j69 hj
    refine mIf_intro (fun c => look_spec h7 r ok ⟨by omega, q1⟩ (hj _ _ ⟨by rw [if_pos c], rfl⟩)) (fun c => hj _ _ ⟨by rw [if_neg (by rw [c]; decide)], rfl⟩)
  rintro old _ ⟨hold, rfl⟩
  have hlk : old = getG M.l0 kk ∨ (old = getG M.l1 kk ∧ getG M.l1 kk ≠ -1) := by
    rw [hold, lookV]
    split
    · split
      · exact .inl rfl
      · rename_i e; exact .inr ⟨rfl, e⟩
    · exact .inl rfl
  have hold0 : 0 ≤ old := by omega
  clear hold
  refine mIf_intro (fun c => ?_) (fun c => ?_)
  · -- nothing there
    have c' : old = 0 := by simpa using c
    refine move_spec h7 r ok ⟨by omega, q1⟩ (fun _ => ?_) (fun ov H8 ho => absurd ho (by decide))
    refine mJoin_cut (fun s Hk => s = true ∧ Stars Hk (baseO B :: (imO s0 t0 s1' t1 M ++ [vecNO enc2 2 y (rfTo M.l0 M.l1 n)]))) ?_ ?_
    rotate_left
    · intro j77 hj
      exact mIf_pos rfl (again3 h7 fun H8 h8 => hj _ _ ⟨rfl, h8⟩)
    rintro _ H8 ⟨rfl, h8⟩
    exact mJoin_intro (mIf_pos rfl (hawake H8 (hx h8)))
  have hold1 : 1 ≤ old := by
    have : ¬ old = 0 := by simpa using c
    omega
  refine move_spec h7 r ok ⟨by omega, q1⟩ (fun h => ?_) (fun ov H8 ho hg hov h8 => ?_)
  · exfalso
    rcases h with h | ⟨h, h'⟩
    · omega
    · rcases hlk with e | ⟨e, _⟩
      · exact h e.symm
      · exact h' e.symm
  have ok' : ImOk n (M.put ov kk 2000) := ok.put ov kk 2000
  have rfm := rf_moved ok hkn ho hg hov z5 n (Nat.le_refl _)
  refine mIf_neg rfl (refs_spec (r.ext h8.base) (h8.list 1 rfl) (h8.list 3 rfl) ok'.n0 ok'.n1 (by omega) fun y2 H9 h9' => ?_)
  have h9 : Stars H9 (baseO B :: (imO s0 t0 s1' t1 (M.put ov kk 2000) ++ [vecNO enc2 2 y (rfTo M.l0 M.l1 n), vecNO enc2 2 y2 (rfTo (M.put ov kk 2000).l0 (M.put ov kk 2000).l1 n)])) := h8.over h9'
  clear h9'
  rw [rfm] at h9
  generalize rfTo M.l0 M.l1 n = W at h9 hlen
  have hv1 : VecN enc2 2 H9 y W := h9.get 5 rfl
  have hv2 : VecN enc2 2 H9 y2 (W.map (mvd kk old)) := h9.get 6 rfl
  have hWl : (W.map (mvd kk old)).length = W.length := List.length_map _
  have hy1 := hv1.len
  have hy2 := hv2.len
  refine mIf_neg (by simp; omega) ?_
  refine mLoop_count W.length (fun j st Hk => st = (j : Int) ∧ ∃ U : List (Int × Int), U.length = W.length ∧ (∀ m : Nat, j ≤ m → U[m]? = W[m]?) ∧ Stars Hk (baseO B :: (imO s0 t0 s1' t1 (M.put ov kk 2000) ++ [vecNO enc2 2 y U, vecNO enc2 2 y2 (W.map (mvd kk old))]))) ⟨rfl, W, rfl, fun _ _ => rfl, h9⟩ ?_
  clear h9 hv1 hv2
  rintro j st H10 again hj ⟨rfl, U, hU, hUW, h10⟩ hag
  have hn2 : (y2.len : Int) = W.length := by omega
  rw [hn2]
  refine mIf_intro (fun cj => ?_) (fun _ => hawake H10 (hx h10))
  have hjW : j < W.length := by simpa using cj
  obtain ⟨w, hw⟩ : ∃ w, W[j]? = some w := ⟨_, List.getElem?_eq_getElem hjW⟩
  have hUj : U[(j : Int).toNat]? = some w := by rw [Int.toNat_natCast, hUW j (Nat.le_refl _)]; exact hw
  have hwm : (W.map (mvd kk old))[(j : Int).toNat]? = some (mvd kk old w) := by rw [Int.toNat_natCast, List.getElem?_map, hw]; rfl
  have vU : VecN enc2 2 H10 y U := h10.get 5 rfl
  refine fst2 (vU.listN len2) (by omega) (by omega) hUj ?_
  refine mJoin_cut (fun s Hk => s = decide (w.1 = kk ∧ w.2 = old) ∧ Hk = H10) ?_ ?_
  rotate_left
  · intro j108 hj
    refine mIf_intro (fun c => snd2 (vU.listN len2) (by omega) (by omega) hUj (hj _ _ ⟨?_, rfl⟩)) (fun c => hj _ _ ⟨?_, rfl⟩)
    · have c' : w.1 = kk := by simpa using c
      simp [c', Bool.beq_eq_decide_eq]
    · have c' : ¬ w.1 = kk := by simpa using c
      rw [decide_eq_false (fun h => c' h.1)]
  rintro _ _ ⟨rfl, rfl⟩
  refine mJoin_cut (fun _ Hk => ∃ U' : List (Int × Int), U'.length = W.length ∧ U'[j]? = some (mvd kk old w) ∧ (∀ m : Nat, j < m → U'[m]? = W[m]?) ∧ Stars Hk (baseO B :: (imO s0 t0 s1' t1 (M.put ov kk 2000) ++ [vecNO enc2 2 y U', vecNO enc2 2 y2 (W.map (mvd kk old))]))) ?_ ?_
  rotate_left
  · intro j112 hj
    refine mIf_intro (fun c => ?_) (fun c => hj _ _ ⟨U, hU, ?_, fun m hm => hUW m (by omega), h10⟩)
    · have c' : w.1 = kk ∧ w.2 = old := by simpa using c
      refine idxN vU (by omega) (by omega) fun a1 x1 el => ?_
      have ex : x1 = w := by have := el.get; rw [hUj] at this; cases this; rfl
      subst ex
      refine S_stF len2 (mvd kk old x1) h10 5 rfl el (by decide) (by rw [mvd, if_pos c', ← c'.1]; rfl) rfl fun H11 h11 => hj _ _ ⟨_, by rw [List.length_set]; exact hU, ?_, fun m hm => ?_, h11⟩
      · rw [Int.toNat_natCast, List.getElem?_set_self (by omega)]
      · rw [Int.toNat_natCast, List.getElem?_set_ne (by omega)]; exact hUW m (by omega)
    · have c' : ¬ (w.1 = kk ∧ w.2 = old) := by simpa using c
      rw [mvd, if_neg c', ← Int.toNat_natCast j]; exact hUj
  rintro _ H11 ⟨U', hU', hUj', hUW', h11⟩
  have vU' : VecN enc2 2 H11 y U' := h11.get 5 rfl
  have vW' : VecN enc2 2 H11 y2 (W.map (mvd kk old)) := h11.get 6 rfl
  refine idxL (vW'.listN len2) (by omega) (by omega) fun a1 x1 hx1 hc1 => ld2 hc1 (idxL (vU'.listN len2) (by omega) (by omega) fun a2 x2 hx2 hc2 => ld2 hc2 ?_)
  rw [hwm] at hx1; cases hx1
  rw [Int.toNat_natCast, hUj'] at hx2; cases hx2
  refine mIf_neg (by simp [andAll]) ?_
  rw [wrap_succ (by omega)]
  exact hag hjW _ _ ⟨rfl, U', hU', fun m hm => hUW' m (by omega), h11⟩
end Go.Proofs.Ytmbfefbgjdpelaa

/- THE LAWS WindowCuts AND WindowHolds, on formulas. -/
import Derived.Test.YtegnpplffhkjhaaWinB
set_option linter.unusedVariables false
set_option linter.unusedSimpArgs false
namespace Go.Proofs.Ytegnpplffhkjhaa
open Go Go.Kx
def DoneD (H : PH) (r : Bool) (H' : PH) : Prop := r = true ∧ Ext H H'

theorem items_none {W : Win} (h : ∀ n, W.next ≤ n → n < W.next + W.size → W.f n = none) : items W = [] := by
  have : ∀ k, k ≤ W.size → itemsTo W k = [] := by
    intro k
    induction k with
    | zero => intro _; rfl
    | succ k ih => intro hk; rw [itemsTo_none (h _ (by omega) (by omega)), ih (by omega)]
  exact this _ (Nat.le_refl _)
theorem items_one {W : Win} {d : Nat} {v : Int} (hd : d < W.size) (h1 : W.f (W.next + d) = some v) (h : ∀ n, W.next ≤ n → n < W.next + W.size → n ≠ W.next + d → W.f n = none) : items W = [(W.next + d, v)] := by
  have : ∀ k, k ≤ W.size → itemsTo W k = if d < k then [(W.next + (d : Int), v)] else [] := by
    intro k
    induction k with
    | zero => intro _; rfl
    | succ k ih =>
      intro hk
      by_cases e : k = d
      · subst e
        rw [itemsTo_some h1, ih (by omega)]; simp
      · rw [itemsTo_none (h _ (by omega) (by omega) (by omega)), ih (by omega)]
        by_cases e2 : d < k
        · simp [e2, show d < k + 1 by omega]
        · simp [e2, show ¬ d < k + 1 by omega]
  rw [items, this _ (Nat.le_refl _), if_pos hd]

theorem cuts_law {H : PH} {p0 p1 p2 : Int} : keelsonlaw23_WindowCuts p0 p1 p2 H (DoneD H) := by
  have hawake : ∀ H2, Ext H H2 → keelsonlaw23_awake H2 (DoneD H) := fun H2 x2 => awake_spec fun H3 x3 => ⟨rfl, x2.trans x3⟩
  have aw : mIf true (keelsonlaw23_awake H (DoneD H)) False := mIf_pos rfl (hawake H (.refl _))
  refine mJoin_intro (mIf_intro (fun _ => mIf_pos rfl (hawake H (.refl _))) (fun c0 => mIf_intro (fun _ => hawake H (.refl _)) (fun c1 => ?_)))
  have g0 : 2 ≤ p0 := by simp at c0; omega
  have g1 : p0 ≤ 16 := by simp at c1; omega
  refine new_spec (fun h => absurd ⟨by omega, g1, by decide, by decide⟩ h) fun _ a s H1 h1 => ?_
  obtain ⟨N, hN⟩ := Int.eq_ofNat_of_zero_le (show 0 ≤ p0 by omega)
  have eN : p0.toNat = N := by omega
  rw [eN] at h1
  refine mJoin_intro (mIf_neg rfl (put_spec (n := 5) (v := p1) h1 (i := 1) rfl fun H2 h2 => ?_))
  have w1 : (newWin N 5).putE 5 = 0 := by simp [Win.putE, newWin]; omega
  have p1e : (newWin N 5).put 5 p1 = ⟨N, 5, fun k => if k = 5 then some p1 else none⟩ := by rw [Win.put, if_pos w1]; rfl
  rw [w1]; rw [p1e] at h2
  refine mJoin_intro (mIf_neg rfl (put_spec (n := 6) (v := p1) h2 (i := 1) rfl fun H3 h3 => ?_))
  have w2 : (⟨N, 5, fun k => if k = 5 then some p1 else none⟩ : Win).putE 6 = 0 := by simp [Win.putE]; omega
  have p2e : (⟨N, 5, fun k => if k = 5 then some p1 else none⟩ : Win).put 6 p1 = ⟨N, 5, fun k => if k = 6 then some p1 else if k = 5 then some p1 else none⟩ := by rw [Win.put, if_pos w2]
  rw [w2]; rw [p2e] at h3
  refine mJoin_intro (mIf_neg rfl (cut_spec h3 (i := 1) rfl fun H4 h4 => ?_))
  have e4 : (⟨N, 5, fun k => if k = 6 then some p1 else if k = 5 then some p1 else none⟩ : Win).peekO = true := by simp [Win.peekO, slotOf]
  have c4 : (⟨N, 5, fun k => if k = 6 then some p1 else if k = 5 then some p1 else none⟩ : Win).cut = ⟨N, 5, fun k => if k = 6 then some p1 else none⟩ := by
    simp only [Win.cut]
    congr 1
    funext k
    by_cases h5 : k = 5
    · subst h5; simp
    · simp [h5]
  rw [e4]; rw [c4] at h4
  refine mJoin_intro (mIf_neg rfl (cut_spec h4 (i := 1) rfl fun H5 h5 => ?_))
  have e5 : (⟨N, 5, fun k => if k = 6 then some p1 else none⟩ : Win).peekO = false := by simp [Win.peekO, slotOf]
  rw [e5]; rw [cut_none e5] at h5
  refine mJoin_intro (mIf_neg rfl (len_spec (h5.get 1 rfl) fun H6 x6 => ?_))
  have i6 : items (⟨N, 5, fun k => if k = 6 then some p1 else none⟩ : Win) = [(6, p1)] := items_one (d := 1) (W := ⟨N, 5, fun k => if k = 6 then some p1 else none⟩) (by show 1 < N; omega) (by simp) (fun n h1 h2 h3 => by
    have : n ≠ 6 := by simpa using h3
    simp [this])
  rw [i6]
  have h6 := h5.ext x6
  refine mJoin_intro (mIf_neg rfl (next_spec (h6.get 1 rfl) (mJoin_intro (mIf_neg rfl (put_spec (n := 5) (v := 7) h6 (i := 1) rfl fun H7 h7 => ?_)))))
  have w7 : (⟨N, 5, fun k => if k = 6 then some p1 else none⟩ : Win).putE 5 = 0 := by simp [Win.putE]; omega
  have p7 : (⟨N, 5, fun k => if k = 6 then some p1 else none⟩ : Win).put 5 7 = ⟨N, 5, fun k => if k = 5 then some 7 else if k = 6 then some p1 else none⟩ := by rw [Win.put, if_pos w7]
  rw [w7]; rw [p7] at h7
  refine mIf_neg rfl (pop_spec h7 (i := 1) rfl (by show (5 : Int) + 1 < 2 ^ 40; decide) fun H8 h8 => round_spec (by decide) (by decide) ?_)
  have e8 : (⟨N, 5, fun k => if k = 5 then some 7 else if k = 6 then some p1 else none⟩ : Win).peekO = true := by simp [Win.peekO, slotOf]
  have v8 : (⟨N, 5, fun k => if k = 5 then some 7 else if k = 6 then some p1 else none⟩ : Win).peekV = 7 := by simp [Win.peekV, slotOf]
  rw [e8, v8]
  have r0 := Int.emod_nonneg p2 (show (1073741824 : Int) ≠ 0 by decide)
  have r1 := Int.emod_lt_of_pos p2 (show (0 : Int) < 1073741824 by decide)
  rw [wrap64_id (x := 1 + p2 % 1073741824) (by omega) (by omega), wrap64_id (x := 1 + p2 % 1073741824 - 1) (by omega) (by omega)]
  generalize hn : 1 + p2 % 1073741824 = n
  refine reset_spec (n := n) h8 (i := 1) rfl fun H9 h9 => ?_
  rw [if_pos (by omega)] at h9
  refine len_spec (h9.get 1 rfl) fun H10 x10 => ?_
  rw [items_none (fun _ _ _ => rfl)]
  refine reset_spec (n := 0) (h9.ext x10) (i := 1) rfl fun H11 h11 => ?_
  rw [if_neg (by decide)] at h11
  refine mJoin_intro (mIf_pos rfl (mJoin_intro (mIf_pos rfl (mJoin_intro (mIf_pos rfl (next_spec (h11.get 1 rfl) ?_))))))
  have es : (Win.pop ⟨N, 5, fun k => if k = 5 then some 7 else if k = 6 then some p1 else none⟩).size = N := by rw [Win.pop, if_pos e8]; rfl
  rw [es] at h11 ⊢
  refine mJoin_intro (mIf_pos (by show (n == n) = true; simp) (put_spec (n := n) (v := 1) h11 (i := 1) rfl fun H12 h12 => ?_))
  have w12 : (newWin N n).putE n = 0 := by
    have : ¬ n + (N : Int) ≤ n := by omega
    simp [Win.putE, newWin, this]
  rw [w12]
  refine mJoin_intro (mIf_pos rfl (put_spec (n := n - 1) (v := 1) h12 (i := 1) rfl fun H13 h13 => ?_))
  have w13 : ((newWin N n).put n 1).putE (n - 1) = 9 := by
    rw [Win.put, if_pos w12]
    have : n - 1 < n := by omega
    simp [Win.putE, newWin, this]
  rw [w13]
  exact mJoin_intro (mIf_pos rfl (awake_spec fun H14 x14 => ⟨rfl, h13.base.trans x14⟩))

/-! ### WindowHolds -/
theorem items_sorted (W : Win) : ∀ k, (∀ x, x ∈ itemsTo W k → W.next ≤ x.1 ∧ x.1 < W.next + k ∧ W.f x.1 = some x.2) ∧ (itemsTo W k).Pairwise (fun x y => x.1 < y.1)
  | 0 => ⟨fun x h => by simp [itemsTo] at h, by simp [itemsTo]⟩
  | k + 1 => by
    obtain ⟨h1, h2⟩ := items_sorted W k
    cases h : W.f (W.next + k) with
    | none =>
      rw [itemsTo_none h]
      exact ⟨fun x hx => ⟨(h1 x hx).1, by have := (h1 x hx).2.1; push_cast; omega, (h1 x hx).2.2⟩, h2⟩
    | some v =>
      rw [itemsTo_some h]
      refine ⟨fun x hx => ?_, List.pairwise_append.2 ⟨h2, by simp, fun x hx y hy => ?_⟩⟩
      · rcases List.mem_append.1 hx with hx | hx
        · exact ⟨(h1 x hx).1, by have := (h1 x hx).2.1; push_cast; omega, (h1 x hx).2.2⟩
        · rw [List.mem_singleton] at hx; subst hx
          exact ⟨by show W.next ≤ W.next + k; omega, by show W.next + k < W.next + ((k + 1 : Nat) : Int); push_cast; omega, h⟩
      · rw [List.mem_singleton] at hy; subst hy
        exact (h1 x hx).2.1
theorem holds_law {H : PH} {p0 p1 p3 : Int} {sl : Sl} {m : List Int} (hs : Ints H sl m) : keelsonlaw23_WindowHolds p0 p1 sl p3 H (DoneD H) := by
  have hlen := hs.lenI
  have hawake : ∀ H2, Ext H H2 → keelsonlaw23_awake H2 (DoneD H) := fun H2 x2 => awake_spec fun H3 x3 => ⟨rfl, x2.trans x3⟩
  have aw := hawake H (.refl _)
  refine mJoin_intro (mIf_intro (fun _ => mJoin_intro (mIf_pos rfl (mJoin_intro (mIf_pos rfl (mJoin_intro (mIf_pos rfl (mIf_pos rfl aw))))))) (fun c0 => ?_))
  refine mJoin_intro (mIf_intro (fun _ => mJoin_intro (mIf_pos rfl (mJoin_intro (mIf_pos rfl (mIf_pos rfl aw))))) (fun c1 => ?_))
  refine mJoin_intro (mIf_intro (fun _ => mJoin_intro (mIf_pos rfl (mIf_pos rfl aw))) (fun c2 => ?_))
  refine mJoin_intro (mIf_intro (fun _ => mIf_pos rfl aw) (fun c3 => mIf_intro (fun _ => aw) (fun c4 => ?_)))
  have g0 : 1 ≤ p0 := by simp at c0; omega
  have g1 : p0 ≤ 16 := by simp at c1; omega
  have g2 : 1 ≤ p1 := by simp at c2; omega
  have g3 : p1 ≤ 1073741824 := by simp at c3; omega
  have g4 : m.length ≤ 60 := by simp at c4; omega
  refine new_spec (fun h => absurd ⟨by omega, g1, g2, by omega⟩ h) fun _ a s H1 h1 => mIf_neg rfl ?_
  obtain ⟨N, rfl⟩ := Int.eq_ofNat_of_zero_le (show 0 ≤ p0 by omega)
  rw [Int.toNat_natCast] at h1
  have ez : IntKind.wrap .i64 ((N : Int) + 3) = N + 3 := wrap64_id (by omega) (by omega)
  rw [ez]
  refine mLoop_count m.length (fun k st Hk => ∃ W : Win, st = (k : Int) ∧ Stars Hk [baseO H, winO a s W] ∧ W.size = N ∧ W.next = p1 ∧ ∀ n v, W.f n = some v → v = 3 * n) ⟨newWin N p1, rfl, h1, rfl, rfl, fun n v h => by cases h⟩ ?_
  rintro k st H2 again hk ⟨W, rfl, h2, e1, e2, hf⟩ hag
  refine mIf_intro (fun c => ?_) (fun c => ?_)
  · have hkm : k < m.length := by simp at c; omega
    refine idx_ld (hs.ext h2.base) (by simp) (by simpa using hkm) fun x hx => round_spec (by omega) (by omega) ?_
    have r0 := Int.emod_nonneg x (show (N : Int) + 3 ≠ 0 by omega)
    have r1 := Int.emod_lt_of_pos x (show (0 : Int) < N + 3 by omega)
    rw [wrap64_id (x := p1 + x % (↑N + 3)) (by omega) (by omega), wrap64_id (x := p1 + x % (↑N + 3) - 1) (by omega) (by omega)]
    generalize hn : p1 + x % (↑N + 3) - 1 = n
    rw [wrap64_id (x := 3 * n) (by omega) (by omega)]
    refine put_spec (n := n) (v := 3 * n) h2 (i := 1) rfl fun H3 h3 => ?_
    rw [wrap_succ (by omega)]
    refine hag hkm _ _ ⟨W.put n (3 * n), rfl, h3, ?_, ?_, fun n' v' hf' => ?_⟩
    · rw [Win.put]; split <;> exact e1
    · rw [Win.put]; split <;> exact e2
    · rw [Win.put] at hf'
      split at hf'
      · by_cases e : n' = n
        · simp only [e, if_true] at hf'; cases hf'; rw [e]
        · simp only [e, if_false] at hf'; exact hf n' v' hf'
      · exact hf n' v' hf'
  have il : (items W).length ≤ N := by have := itemsTo_len W W.size; rw [items]; omega
  obtain ⟨is1, is2⟩ := items_sorted W W.size
  refine all_spec (h2.get 1 rfl) fun r1 r2 H3 k3 => ?_
  have h3 := h2.over k3
  rw [List.take_of_length_le (by show (items W).length ≤ 99; omega)] at h3
  refine round_spec (by decide) (by decide) ?_
  have s0 := Int.emod_nonneg p3 (show (17 : Int) ≠ 0 by decide)
  have s1 := Int.emod_lt_of_pos p3 (show (0 : Int) < 17 by decide)
  obtain ⟨S, hS⟩ := Int.eq_ofNat_of_zero_le s0
  rw [hS]
  refine all_spec (h3.get 1 rfl) fun r3 r4 H4 k4 => ?_
  have h4 := h3.over k4
  refine len_spec (h4.get 1 rfl) fun H5 x5 => ?_
  have h5 := h4.ext x5
  have l1 := (h5.list 2 rfl).lenI
  have l2 := (h5.list 3 rfl).lenI
  rw [List.length_map] at l1 l2
  have e3 : ((r1.len : Int) != ((items W).length : Int)) = false := by rw [l1]; simp
  have e4 : decide ((N : Int) < (r1.len : Int)) = false := by rw [l1]; simp; exact il
  have e5 : ((r2.len : Int) != (r1.len : Int)) = false := by rw [l1, l2]; simp
  refine mJoin_intro (mIf_neg e3 ?_)
  rw [e4]
  refine mJoin_intro (mIf_neg rfl ?_)
  rw [e5]
  refine mJoin_intro (mIf_neg rfl ?_)
  rw [l1]
  have emin : (if ((items W).length : Int) < S then ((items W).length : Int) else S) = ((min S (items W).length : Nat) : Int) := by split <;> omega
  rw [emin]
  refine cut_list (h5.list 2 rfl) (by omega) (by omega) (by rw [List.length_map]; omega) fun r6 l6 _ => ?_
  have el6 : List.take ((((min S (items W).length : Nat) : Int)).toNat - (0 : Int).toNat) (List.drop (0 : Int).toNat ((items W).map (·.1))) = ((items W).take (S : Int).toNat).map (·.1) := by
    simp only [Int.toNat_natCast, Int.toNat_zero, Nat.sub_zero, List.drop_zero, List.map_take]
    rw [List.take_eq_take_iff]; simp
  rw [el6] at l6
  refine ints_spec (h5.list 4 rfl) l6 (by simp; omega) ?_
  rw [decide_eq_true rfl]
  refine mIf_neg rfl ?_
  refine mLoop_count (items W).length (fun k st Hk => st = (k : Int) ∧ Hk = H5) ⟨rfl, rfl⟩ ?_
  rintro k st H6 again6 hk6 ⟨rfl, rfl⟩ hag6
  have L1 := h5.list 2 rfl
  have L2 := h5.list 3 rfl
  refine mIf_intro (fun c => ?_) (fun c => ?_)
  · have hkl : k < (items W).length := by simpa using c
    have gk : (items W)[k]? = some (items W)[k] := by simp [hkl]
    generalize hx : (items W)[k] = x at gk
    obtain ⟨b1, b2, b3⟩ := is1 x (List.mem_of_getElem? gk)
    rw [e1, e2] at b2
    rw [e2] at b1
    have f1 : ∀ K : Int → Prop, K x.1 → mIdx r1 1 (k : Int) fun a71 => mLd (.int .i64) H6 a71 K := fun K hK => idx_ld L1 (by omega) (by rw [List.length_map]; omega) fun y hy => by
      rw [Int.toNat_natCast, List.getElem?_map, gk] at hy; cases hy; exact hK
    have f2 : ∀ K : Int → Prop, K x.2 → mIdx r2 1 (k : Int) fun a71 => mLd (.int .i64) H6 a71 K := fun K hK => idx_ld L2 (by omega) (by rw [List.length_map]; omega) fun y hy => by
      rw [Int.toNat_natCast, List.getElem?_map, gk] at hy; cases hy; exact hK
    have ev : x.2 = 3 * x.1 := hf _ _ b3
    refine f1 _ (mJoin_intro (mIf_neg (by simp; omega) (f1 _ (mJoin_intro ?_))))
    rw [wrap64_id (x := p1 + ↑N) (by omega) (by omega)]
    refine mIf_neg (by simp; omega) (f2 _ (f1 _ (mJoin_intro ?_)))
    rw [wrap64_id (x := 3 * x.1) (by omega) (by omega)]
    refine mIf_neg (by rw [ev]; simp) (mJoin_intro (mIf_intro (fun c5 => ?_) (fun c5 => ?_)))
    · have hk0 : 0 < k := by simpa using c5
      have gk1 : (items W)[k - 1]? = some (items W)[k - 1] := by simp
      have hlt := List.pairwise_iff_getElem.1 is2 (k - 1) k (by show k - 1 < (items W).length; omega) hkl (by omega)
      refine f1 _ ?_
      rw [wrap64_id (by omega) (by omega)]
      refine idx_ld L1 (by omega) (by rw [List.length_map]; omega) fun y hy => ?_
      rw [show ((k : Int) - 1).toNat = k - 1 by omega, List.getElem?_map, gk1] at hy
      cases hy
      have : decide (x.1 ≤ (items W)[k - 1].1) = false := by
        rw [← hx]
        simp only [decide_eq_false_iff_not, Int.not_le]
        exact hlt
      rw [this]
      refine mIf_neg rfl ?_
      rw [wrap_succ (by omega)]
      exact hag6 hkl _ _ ⟨rfl, rfl⟩
    · refine mIf_neg rfl ?_
      rw [wrap_succ (by omega)]
      exact hag6 hkl _ _ ⟨rfl, rfl⟩
  · refine next_spec (h5.get 1 rfl) (mJoin_intro (mIf_pos (by rw [e2]; simp) (awake_spec fun H7 x7 => ⟨rfl, h5.base.trans x7⟩)))
end Go.Proofs.Ytegnpplffhkjhaa

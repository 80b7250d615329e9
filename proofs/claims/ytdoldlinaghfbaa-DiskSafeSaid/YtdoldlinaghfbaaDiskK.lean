/- THE LAW DiskPicks, on formulas. -/
import Derived.Test.YtdoldlinaghfbaaDiskJ
set_option linter.unusedVariables false
set_option linter.unusedSimpArgs false
namespace Go.Proofs.Ytdoldlinaghfbaa
open Go Go.Kx

theorem wrap_succ {k : Nat} (h : k < 2 ^ 60) : IntKind.wrap .i64 ((k : Int) + 1) = ((k + 1 : Nat) : Int) := by rw [wrap64_id (by omega) (by omega)]; push_cast; rfl
def held1 (g : Nat → Blk) (k : Nat) : List (Int × Blk) := (List.range k).map fun (i : Nat) => ((i : Int), g i)
theorem held1_succ (g : Nat → Blk) (k : Nat) : held1 g (k + 1) = held1 g k ++ [((k : Int), g k)] := by simp [held1, List.range_succ]
theorem held1_length (g : Nat → Blk) (k : Nat) : (held1 g k).length = k := by simp [held1]
theorem putAll_held (s : List Blk) (g : Nat → Blk) : ∀ k i, i < s.length → (putAll s (held1 g k))[i]? = if i < k then some (g i) else s[i]?
  | 0, i, _ => by simp [held1, putAll]
  | k + 1, i, hi => by
    rw [held1_succ, putAll_snoc, Int.toNat_natCast]
    by_cases e : i = k
    · subst e
      rw [List.getElem?_set_self (by rw [putAll_length]; exact hi)]; simp
    · rw [List.getElem?_set_ne (fun h => e h.symm), putAll_held s g k i hi]
      by_cases h : i < k
      · simp [h, show i < k + 1 by omega]
      · simp [h, show ¬ i < k + 1 by omega]
/-- A disk of n sectors that has power, and of which each one below k is held once. -/
structure Rows (a n : Nat) (safe : List Blk) (g : Nat → Blk) (k : Nat) (D : Dk) : Prop where
  small : Small D
  off : D.off = false
  fuse : D.fuse = -1
  acts : D.acts ≤ a + k
  now : D.now.length = n
  safe : D.safe = safe
  held : D.held = held1 g k
  faults : D.faults = List.replicate n false
theorem Rows.write {a n : Nat} {safe : List Blk} {g : Nat → Blk} {k : Nat} {D : Dk} (h : Rows a n safe g k D) (hk : k < n) (hn : n ≤ 1000) (ha : a ≤ 1000) : D.act.2 = true ∧ Rows a n safe g (k + 1) (D.write k (g k)) := by
  obtain ⟨a1, a2⟩ := write_live (D := D) (i := k) (b := g k) h.off h.fuse
  have hl : D.held.length = k := by rw [h.held, held1_length]
  have := h.acts
  have sm := h.small.write (i := k) (b := g k) (by rw [h.now]; exact hk) (by omega) (by omega)
  refine ⟨a1, ?_⟩
  rw [a2] at sm ⊢
  refine ⟨sm, rfl, rfl, ?_, ?_, h.safe, ?_, h.faults⟩
  · show D.acts + 1 ≤ _; push_cast; omega
  · show (D.now.set k (g k)).length = n; rw [List.length_set]; exact h.now
  · show D.held ++ _ = _; rw [held1_succ, h.held]
/-- A loop that writes each sector once. -/
theorem tear_get (a b : Blk) (n k : Nat) (hk : k < 64) (hn : n ≤ 64) : (tear a b n).1[k]? = if k < n then b.1[k]? else a.1[k]? := by
  simp only [tear]
  by_cases h : k < n
  · rw [if_pos h, List.getElem?_append_left (by simp [b.2]; omega), List.getElem?_take, if_pos h]
  · rw [if_neg h, List.getElem?_append_right (by simp [b.2]; omega)]
    simp [b.2]
    congr 1; omega
theorem fill_get (x : Int) (k : Nat) (hk : k < 64) : (fillB x).1[k]? = some ((x % 256 + (k : Int)) % 256) := by simp [fillB, fillL, hk]
theorem goneTo_le (m : List Int) (i : Nat) : goneTo m i ≤ 64 := by
  have := pick_le m i
  unfold goneTo; split
  · omega
  · split <;> omega
theorem drop_eq (i n : Nat) (hn : n ≤ 64) : (tear (fillB 200) (fillB i) n).1.drop n = (fillB 200).1.drop n := by
  simp only [tear]
  rw [List.drop_append, List.drop_of_length_le (by rw [List.length_take]; omega), List.nil_append, List.length_take, (fillB i).2, Nat.min_eq_left hn, Nat.sub_self, List.drop_zero]

theorem picks_law {H : PH} {s : Sl} {m : List Int} (hs : Ints H s m) : keelsonlaw3_DiskPicks s H (DoneD H) := by
  have hlen := hs.lenI
  have hawake : ∀ H2, Ext H H2 → keelsonlaw3_awake H2 (DoneD H) := fun H2 x2 => awake_spec fun H3 x3 => ⟨rfl, x2.trans x3⟩
  refine mIf_intro (fun _ => awake_spec fun H3 x3 => ⟨rfl, x3⟩) (fun h0 => ?_)
  have hm : m.length ≤ 40 := by simp at h0; omega
  obtain ⟨n, hn⟩ : ∃ n, n = m.length + 2 := ⟨_, rfl⟩
  have en : IntKind.wrap .i64 ((s.len : Int) + 2) = (n : Int) := by rw [wrap64_id (by omega) (by omega)]; omega
  rw [en]
  refine new_spec (n := n) (by omega) (by omega) fun A H1 x1 d1 f1 => ?_
  refine mJoin_intro (mIf_neg rfl (mIf_neg rfl ?_))
  -- the first writes
  refine mLoop_count n (fun k st Hk => ∃ A' D, A'.a = A.a ∧ st = (k : Int) ∧ Ext H Hk ∧ DiskAt Hk A' D ∧ (∀ c, A'.foot c → H c = none) ∧ Rows 0 n (List.replicate n zeroB) (fun _ => fillB 200) k D)
    ⟨A, _, rfl, rfl, x1, d1, f1, ⟨small_fresh n (by omega), rfl, rfl, by simp [fresh], by simp [fresh], rfl, rfl, rfl⟩⟩ ?_
  rintro k st H2 again hk ⟨A2, D2, ea2, rfl, x2, d2, f2, r2⟩ hag
  rw [← ea2]
  refine mIf_intro (fun hlt => ?_) (fun hge => ?_)
  · have hkn : k < n := by simpa using hlt
    obtain ⟨b1, b2⟩ := r2.write hkn (by omega) (by omega)
    refine fill_spec fun r3 H3 x3 o3 v3 => write_spec (i := k) (b := fillB 200) (d2.ext x3) r2.small (by rw [r2.now]; exact hkn) v3.list (apart_new d2 o3) fun A4 H4 d4 af4 => ?_
    rw [if_pos b1, wrap_succ (by omega)]
    exact mIf_neg rfl (hag hkn _ _ ⟨A4, _, af4.same.trans ea2, rfl, af4.ext0 (x2.trans x3) f2, d4, af4.foot0 (x2.trans x3) f2, b2⟩)
  have hkn : k = n := by simp at hge; omega
  subst hkn
  obtain ⟨b1, b2⟩ := flush_live (D := D2) r2.off r2.fuse
  refine flush_spec d2 r2.small fun A3 H3 d3 af3 => ?_
  have sm3 := r2.small.flush (by have := r2.acts; omega)
  rw [if_pos b1]
  rw [b2] at d3 sm3
  have esafe : putAll D2.safe D2.held = List.replicate k (fillB 200) := by
    apply List.ext_getElem?
    intro i
    rw [r2.held, r2.safe]
    by_cases hi : i < k
    · rw [putAll_held _ _ _ _ (by simpa using hi)]; simp [hi]
    · rw [List.getElem?_eq_none (by rw [putAll_length]; simp; omega), List.getElem?_eq_none (by simp; omega)]
  have x03 := af3.ext0 x2 f2
  have f03 := af3.foot0 x2 f2
  rw [← af3.same]
  refine mIf_neg rfl ?_
  -- the second writes
  refine mLoop_count k (fun k2 st Hk => ∃ A' D, A'.a = A3.a ∧ st = (k2 : Int) ∧ Ext H Hk ∧ DiskAt Hk A' D ∧ (∀ c, A'.foot c → H c = none) ∧ Rows (k + 1) k (List.replicate k (fillB 200)) (fun i => fillB i) k2 D)
    ⟨A3, _, rfl, rfl, x03, d3, f03, ⟨sm3, rfl, rfl, by have := r2.acts; show D2.acts + 1 ≤ _; push_cast; omega, r2.now, esafe, rfl, r2.faults⟩⟩ ?_
  rintro k4 st H4 again4 hk4 ⟨A4, D4, ea4, rfl, x4, d4, f4, r4⟩ hag4
  rw [← ea4]
  refine mIf_intro (fun hlt => ?_) (fun hge4 => ?_)
  · have hkn : k4 < k := by simpa using hlt
    obtain ⟨b1, b2⟩ := r4.write hkn (by omega) (by omega)
    refine fill_spec fun r5 H5 x5 o5 v5 => write_spec (i := k4) (b := fillB k4) (d4.ext x5) r4.small (by rw [r4.now]; exact hkn) v5.list (apart_new d4 o5) fun A6 H6 d6 af6 => ?_
    rw [if_pos b1, wrap_succ (by omega)]
    exact mIf_neg rfl (hag4 hkn _ _ ⟨A6, _, af6.same.trans ea4, rfl, af6.ext0 (x4.trans x5) f4, d6, af6.foot0 (x4.trans x5) f4, b2⟩)
  have hkn4 : k4 = k := by simp at hge4; omega
  subst hkn4
  refine crash_spec d4 r4.small (by rw [r4.now]; omega) (hs.ext x4) fun A5 H5 x5 d5 f5 => mIf_neg rfl ?_
  have sm5 := r4.small.crash m
  have x05 := x4.trans x5
  -- what the crash left
  have hnow : ∀ i, i < k4 → (D4.crash m).now[i]? = some (tear (fillB 200) (fillB i) (goneTo m i)) := fun i hi => by
    show (crashTo m D4.safe D4.held D4.held.length).1[i]? = _
    have hl : D4.held.length = k4 := by rw [r4.held, held1_length]
    rw [hl, r4.safe, r4.held]
    have := (crash_picks m k4 (fillB 200) (fun i => fillB i) k4 (Nat.le_refl _)).2 i hi
    rw [if_pos hi] at this
    exact this
  have hread : ∀ i, i < k4 → (D4.crash m).read i = 0 := fun i hi => by
    show (if false = true then (3 : Int) else if D4.faults.getD i false = true then 4 else 0) = 0
    rw [r4.faults]; simp [List.getD, hi]
  refine mLoop_count k4 (fun i st Hk => st = ((torns m i : Int), (i : Int)) ∧ torns m i ≤ i ∧ Ext H5 Hk) ⟨rfl, Nat.le_refl _, .refl _⟩ ?_
  rintro i st H6 again6 hi6 ⟨rfl, htl, x6⟩ hag6
  refine mIf_intro (fun hlt => ?_) (fun _ => hawake H6 (x05.trans x6))
  have hi : i < k4 := by simpa using hlt
  refine read_ok (i := i) (d5.ext x6) sm5 (hnow i hi) (hread i hi) fun r7 H7 x7 o7 v7 => ?_
  have l7 : (r7.len : Int) = 64 := by rw [v7.list.lenI, (tear (fillB 200) (fillB i) (goneTo m i)).2]; rfl
  have e7 : ((r7.len : Int) != 64) = false := by rw [l7]; rfl
  refine mJoin_intro (mIf_neg rfl ?_)
  rw [e7]
  refine mIf_neg rfl ?_
  have hg64 := goneTo_le m i
  refine mLoop_count 64 (fun g st Hk => st = (g : Int) ∧ g ≤ goneTo m i ∧ Ext H7 Hk) ⟨rfl, Nat.zero_le _, .refl _⟩ ?_
  rintro g st H8 again8 hg8 ⟨rfl, hgg, x8⟩ hag8
  have v8 := v7.ext x8
  have tl := (tear (fillB 200) (fillB i) (goneTo m i)).2
  -- behind the count
  have stop : g = goneTo m i → ∀ H9, Ext H8 H9 → mCut r7 1 (g : Int) (r7.len : Int) fun r64 => keelsonalike_Fill 200 H9 fun y66 H65 => mCut y66 1 (g : Int) (y66.len : Int) fun r68 => keelsonalike_Bytes r64 r68 H65 fun y70 H69 =>
      mIf (!y70) (DoneD H false H69) (mJoin (fun (s72 : Int) (H74 : PH) => mJoin (fun (s76 : Int) (H78 : PH) => mJoin (fun (s80 : Int × Int) (H82 : PH) => mIf ((g : Int) != s80.2) (DoneD H false H82) (again6 (s80.1, IntKind.wrap .i64 ((i : Int) + 1)) H82))
        fun j81 => mIf ((Int.tmod s72 3) == 2) (mIf ((IntKind.wrap .i64 ((torns m i : Int) + 1)) == 1) (j81 (IntKind.wrap .i64 ((torns m i : Int) + 1), IntKind.wrap .i64 (Int.tdiv s72 3)) H78) (j81 (IntKind.wrap .i64 ((torns m i : Int) + 1), s76) H78)) (j81 ((torns m i : Int), s76) H78))
        fun j77 => mIf ((Int.tmod s72 3) == 1) (j77 64 H74) (j77 0 H74))
        fun j73 => mIf (decide ((i : Int) < (s.len : Int))) (mIdx s 1 (i : Int) fun a89 => mLd (.int .i64) H69 a89 fun x91 => keelsonalike_Round x91 192 H69 fun y94 H93 => j73 y94 H93) (j73 0 H69)) := by
    intro eg H9 x9
    refine cut_list (v8.ext x9).list (by omega) (by omega) (by rw [tl, l7]; decide) fun r10 l10 _ => fill_spec fun r11 H11 x11 o11 v11 => ?_
    have l11 : (r11.len : Int) = 64 := by rw [v11.list.lenI, (fillB 200).2]; rfl
    refine cut_list v11.list (by omega) (by omega) (by rw [(fillB 200).2, l11]; decide) fun r12 l12 _ => ?_
    rw [l7] at l10
    rw [l11] at l12
    rw [Int.toNat_natCast, eg, drop_eq i _ hg64] at l10
    rw [Int.toNat_natCast, eg] at l12
    refine bytes_spec (l10.ext x11) l12 (by simp; omega) ?_
    rw [decide_eq_true rfl]
    refine mIf_neg rfl ?_
    have x011 : Ext H5 H11 := ((x6.trans x7).trans x8).trans (x9.trans x11)
    obtain ⟨p0, p1⟩ := pick_le m i
    have e3 : (pickAt m i).tmod 3 = pickAt m i % 3 := Int.tmod_eq_emod_of_nonneg p0
    have ed : IntKind.wrap .i64 (Int.tdiv (pickAt m i) 3) = pickAt m i / 3 := by rw [Int.tdiv_eq_ediv_of_nonneg p0, wrap64_id (by omega) (by omega)]
    have ew : IntKind.wrap .i64 ((torns m i : Int) + 1) = ((torns m i + 1 : Nat) : Int) := wrap_succ (by omega)
    have nxt : ∀ (t w : Int), t = (torns m (i + 1) : Int) → w = (goneTo m i : Int) → torns m (i + 1) ≤ i + 1 → mIf ((g : Int) != w) (DoneD H false H11) (again6 (t, IntKind.wrap .i64 ((i : Int) + 1)) H11) := by
      intro t w et ewn hle
      have : ((g : Int) != w) = false := by rw [ewn, eg]; simp
      refine mIf_neg this ?_
      rw [wrap_succ (by omega), et]
      exact hag6 hi _ _ ⟨rfl, hle, x011⟩
    have main : mJoin (fun (s76 : Int) (H78 : PH) => mJoin (fun (s80 : Int × Int) (H82 : PH) => mIf ((g : Int) != s80.2) (DoneD H false H82) (again6 (s80.1, IntKind.wrap .i64 ((i : Int) + 1)) H82))
        fun j81 => mIf ((Int.tmod (pickAt m i) 3) == 2) (mIf ((IntKind.wrap .i64 ((torns m i : Int) + 1)) == 1) (j81 (IntKind.wrap .i64 ((torns m i : Int) + 1), IntKind.wrap .i64 (Int.tdiv (pickAt m i) 3)) H78) (j81 (IntKind.wrap .i64 ((torns m i : Int) + 1), s76) H78)) (j81 ((torns m i : Int), s76) H78))
        fun j77 => mIf ((Int.tmod (pickAt m i) 3) == 1) (j77 64 H11) (j77 0 H11) := by
      rw [e3, ed, ew]
      refine mJoin_intro (mIf_intro (fun c1 => ?_) (fun c1 => ?_))
      · have c1' : pickAt m i % 3 = 1 := by simpa using c1
        have hto : torns m (i + 1) = torns m i := by simp [torns, c1']
        refine mJoin_intro (mIf_neg (by rw [c1']; rfl) (nxt _ _ (by rw [hto]) ?_ (by omega)))
        simp [goneTo, c1']
      · have c1' : ¬ pickAt m i % 3 = 1 := by simpa using c1
        refine mJoin_intro (mIf_intro (fun c2 => ?_) (fun c2 => ?_))
        · have c2' : pickAt m i % 3 = 2 := by simpa using c2
          have hto : torns m (i + 1) = torns m i + 1 := by simp [torns, c2']
          refine mIf_intro (fun c3 => nxt _ _ (by rw [hto]) ?_ (by omega)) (fun c3 => nxt _ _ (by rw [hto]) ?_ (by omega))
          · have c3' : torns m i = 0 := by simp at c3; omega
            have : goneTo m i = (pickAt m i / 3).toNat := by simp [goneTo, c2', c3']
            rw [this]; omega
          · have c3' : ¬ torns m i = 0 := by simp at c3; omega
            simp [goneTo, c2', c3']
        · have c2' : ¬ pickAt m i % 3 = 2 := by simpa using c2
          have hto : torns m (i + 1) = torns m i := by simp [torns, c2']
          refine nxt _ _ (by rw [hto]) ?_ (by omega)
          simp [goneTo, c1', c2']
    refine mJoin_intro (mIf_intro (fun hlp => ?_) (fun hlp => ?_))
    · have hkm : i < m.length := by simp at hlp; rw [hs.1] at hlp; omega
      refine idx_ld (hs.ext (x05.trans x011)) (by simp) (by simpa using hkm) fun x hx => round_spec (by decide) (by decide) ?_
      rw [Int.toNat_natCast] at hx
      have : x % 192 = pickAt m i := by rw [pickAt, if_pos hkm]; simp [List.getD, hx]
      rw [this]; exact main
    · have hkm : ¬ i < m.length := by simp at hlp; rw [hs.1] at hlp; omega
      have : pickAt m i = 0 := by rw [pickAt, if_neg hkm]
      have main' := main
      rw [this] at main'; exact main'
  refine mJoin_intro (mIf_intro (fun hlt => ?_) (fun hge => mIf_neg rfl (stop (by simp at hge; omega) H8 (.refl _))))
  have hg : g < 64 := by simp at hlt; omega
  refine idx_ld2 v8.list (by omega) (by rw [tl]; simpa using hlt) fun a x hx hc => fill_spec fun r9 H9 x9 o9 v9 => ⟨x9.cell hc, ?_⟩
  refine idx_ld v9.list (by omega) (by rw [(fillB i).2]; simpa using hlt) fun y hy => ?_
  rw [Int.toNat_natCast, tear_get _ _ _ _ hg hg64] at hx
  rw [Int.toNat_natCast, fill_get _ _ hg] at hy
  cases hy
  by_cases hgo : g < goneTo m i
  · rw [if_pos hgo, fill_get _ _ hg] at hx
    cases hx
    refine mIf_pos (by simp) ?_
    rw [wrap_succ (by omega)]
    exact hag8 hg _ _ ⟨rfl, hgo, x8.trans x9⟩
  · rw [if_neg hgo, fill_get _ _ hg] at hx
    cases hx
    refine mIf_neg ?_ (stop (by omega) H9 x9)
    have : ¬ ((200 % 256 + (g : Int)) % 256 = ((i : Int) % 256 + (g : Int)) % 256) := by omega
    simpa using this
end Go.Proofs.Ytdoldlinaghfbaa

/- THE LAW UsageTakes, on formulas. -/
import Derived.Test.YtmgmjcjpmfdboaaUsgC
set_option linter.unusedVariables false
set_option linter.unusedSimpArgs false
namespace Go.Proofs.Ytmgmjcjpmfdboaa
open Go Go.Kx

theorem first_ok {l : List Use} (h : 0 < freeN l) : ∃ (i : Nat) (u : Use), firstF l = i ∧ l[i]? = some u ∧ u.1 = 0 ∧ ∀ (j : Nat) (w : Use), j < i → l[j]? = some w → w.1 ≠ 0 := by
  obtain ⟨w, hw, hp⟩ := List.countP_pos_iff.1 h
  have hlt : l.findIdx (fun u => u.1 == 0) < l.length := List.findIdx_lt_length_of_exists ⟨w, hw, hp⟩
  refine ⟨l.findIdx (fun u => u.1 == 0), l[l.findIdx (fun u => u.1 == 0)], by rw [firstF, if_pos hlt], List.getElem?_eq_getElem hlt, by simpa using List.findIdx_getElem (w := hlt), fun j w hj hw hz => ?_⟩
  have := List.not_of_lt_findIdx hj
  obtain ⟨hl, he⟩ := List.getElem?_eq_some_iff.1 hw
  rw [he] at this
  simp [hz] at this
theorem first_no {l : List Use} (h : freeN l = 0) : firstF l = -1 := by
  have h2 := List.countP_eq_zero.1 h
  have : l.findIdx (fun u => u.1 == 0) = l.length := List.findIdx_eq_length.2 fun x hx => by simpa using h2 x hx
  rw [firstF, this, if_neg (by omega)]
theorem grab_first {l : List Use} (h : 0 < freeN l) : grabOk l (firstF l) = true := by
  obtain ⟨i, u, e, hu, h0, _⟩ := first_ok h
  have hlt := (List.getElem?_eq_some_iff.1 hu).1
  rw [grabOk, e, getZ_in (by omega) (by simpa using hu), h0]
  have : inR l (i : Int) = true := inR_iff.2 ⟨by omega, by omega⟩
  rw [this]; rfl
theorem free_grab {l : List Use} {k : Int} (h : grabOk l k = true) : freeN (grabL l k) + 1 = freeN l := by
  rw [grabOk, Bool.and_eq_true] at h
  obtain ⟨h0, h1⟩ := inR_iff.1 h.1
  have hz : (getZ (0, 0) l k).1 = 0 := by simpa using h.2
  have hlt : k.toNat < l.length := by omega
  have hg := get_in (d := ((0 : Int), (0 : Int))) h0 h1
  have e : l[k.toNat] = getZ (0, 0) l k := by rw [List.getElem?_eq_getElem hlt] at hg; exact Option.some.inj hg
  have hpos : 0 < l.countP (fun u => u.1 == 0) := List.countP_pos_iff.2 ⟨l[k.toNat], List.getElem_mem hlt, by rw [e, hz]; rfl⟩
  rw [grabL, if_pos (by rw [grabOk, h.1, hz]; rfl), freeN, setS, List.countP_set hlt, e, hz]
  simp only [freeN]
  simp
  omega
/-- What is taken, by a mark. -/
def mk (l : List Use) : List Bool := l.map fun u => u.1 != 0
theorem mk_grab {l : List Use} {k : Int} (h0 : 0 ≤ k) (h1 : k < l.length) : (mk l).set k.toNat true = mk (grabL l k) := by
  have hg := get_in (d := ((0 : Int), (0 : Int))) h0 h1
  unfold grabL
  split
  · rw [mk, mk, setS, List.map_set]; rfl
  · rename_i h
    have hz : (getZ (0, 0) l k).1 ≠ 0 := fun hz => h (by rw [grabOk, inR_iff.2 ⟨h0, h1⟩, hz]; rfl)
    have := set_same (L := mk l) (i := k.toNat) (O := true) (by rw [mk, List.getElem?_map, hg]; simp [hz])
    exact this
theorem grabL_len (l : List Use) (k : Int) : (grabL l k).length = l.length := by unfold grabL; split <;> simp [setS_len]
theorem grabV_len (l : List Use) (v : List Int) (k : Int) : (grabV l v k).length = v.length := by unfold grabV; split <;> simp
theorem freeN_take (l : List Use) (k : Nat) (u : Use) (h : l[k]? = some u) : freeN (l.take (k + 1)) = freeN (l.take k) + if u.1 == 0 then 1 else 0 := by rw [freeN, freeN, List.take_add_one, h]; simp [List.countP_append, List.countP_cons]
theorem freeN_le (l : List Use) : freeN l ≤ l.length := List.countP_le_length

/-- The same configuration in a row of its own, and the geometry of it. -/
theorem cfg_geom {H : PH} {p0 : Int × Int × Int} {Q : Addr → Addr → PH → Prop} (hQ : ∀ a g H', Ext H H' → RowAt H' a (cfgL (cfgOf p0)) → Gm H' (some g) (cfgOf p0) → Q a g H') :
    keelsonalike_Config p0 false H fun y10 H9 => mNew H9 (row [.int .i64 0, .int .i64 0, .int .i64 0] 26) fun a11 H12 => mSt H12 a11 ([.int .i64 y10.1, .int .i64 y10.2.1, .int .i64 y10.2.2]) fun H14 =>
      mLdR (fun (x : (Int × Int × Int)) => [.int .i64 x.1, .int .i64 x.2.1, .int .i64 x.2.2]) H14 a11 3 fun x16 => geom_New (x16.1, x16.2.1, x16.2.2) H14 fun y19 y20 H18 => ∃ a g, y19 = some g ∧ y20 = 0 ∧ a = a11 ∧ Q a g H18 := by
  refine config_spec fun H1 x1 => new_row fun a2 H2 x2 r2 f2 => st_row (vs := cfgL (cfgOf p0)) r2 rfl rfl fun H3 r3 k3 => ldr_row (x := cfgOf p0) r3 rfl (new_yes2 (cfgOf_ok p0) fun g H4 x4 rg _ => ⟨a2, g, rfl, rfl, rfl, hQ a2 g H4 ?_ (r3.ext x4) ⟨g, rfl, rg⟩⟩)
  exact (x1.trans (x2.keepB k3 f2)).trans x4

theorem takes_law {H : PH} {p0 : Int × Int × Int} {s1 : Sl} {l1 : List Int} {p2 : Int} (h1 : Ints H s1 l1) : keelsonlaw12_UsageTakes p0 s1 p2 H (DoneD H) := by
  have hawake : ∀ H2, Ext H H2 → keelsonlaw12_awake H2 (DoneD H) := fun H2 x2 => awake_spec fun H3 x3 => ⟨rfl, x2.trans x3⟩
  have hl1 := h1.lenI
  refine new_row fun a1 H1 x1 r1 _ => mIf_intro (fun _ => hawake H1 x1) (fun c0 => ldr_row (x := p0) r1 rfl ?_)
  have k1 : l1.length ≤ 40 := by simp at c0; omega
  refine config_spec fun H2 x2 => new_row fun a11 H3 x3 r3 f3 => st_row (vs := cfgL (cfgOf p0)) r3 rfl rfl fun H4 r4 kp4 => ldr_row (x := cfgOf p0) r4 rfl (new_yes2 (cfgOf_ok p0) fun g H5 x5 rg _ => ?_)
  have x05 : Ext H H5 := ((x1.trans x2).trans (x3.keepB kp4 f3)).trans x5
  have ok := cfgOf_ok p0
  have r5 := r4.ext x5
  generalize cfgOf p0 = c at ok r5 rg
  have n1 := ok.2.2.1; have n2 := ok.2.2.2.1
  refine tnew_froz (Stars.start H5) ⟨g, rfl, rg⟩ ok (ul := []) ⟨rfl, Nat.le_refl _, fun i x hi => by simp at hi⟩ (.inl rfl) (fun u hu => by simp at hu) fun B a s t H6 xB r h6 => ?_
  obtain ⟨N, hN⟩ := Int.eq_ofNat_of_zero_le (show 0 ≤ c.2.1 by omega)
  have h6' : Stars H6 [baseO B, vecNO encU 2 s (List.replicate N (0, 0)), vecO (Value.int .i64) t (List.replicate N 0)] := by
    rw [hN] at h6; simpa [iniL] using h6
  refine mJoin_intro (mIf_neg rfl (mIf_neg rfl ?_))
  have rx : ∀ {H' L}, Stars H' (baseO B :: L) → RowAt H' a (tabRow (some g) s t) := fun h => r.ext h.base
  have cx : ∀ {H' L}, Stars H' (baseO B :: L) → RowAt H' a11 (cfgL c) := fun h => r5.ext (xB.trans h.base)
  have hx : ∀ {H' L}, Stars H' (baseO B :: L) → Ext H H' := fun h => x05.trans (xB.trans h.base)
  refine ld_row (x := c.2.1) (cx h6') rfl ?_
  rw [hN]
  refine S_mk (enc := Value.bool) (x := false) h6' (by omega) (by omega) fun q H7 h7 _ => ?_
  have e0 : List.replicate (N : Int).toNat false = mk (List.replicate N (0, 0)) := by simp [mk]
  rw [e0] at h7
  -- some are grabbed
  refine mLoop_count l1.length (fun k st Hk => st = (k : Int) ∧ ∃ l v, l.length = N ∧ v.length = N ∧ Stars Hk [baseO B, vecNO encU 2 s l, vecO (Value.int .i64) t v, vecO Value.bool q (mk l)]) ⟨rfl, _, _, by simp, by simp, h7⟩ ?_
  clear h7 h6' h6
  rintro k st H8 again hk ⟨rfl, l, v, hl, hv, h8⟩ hag
  have mlen : ∀ l : List Use, (mk l).length = l.length := fun l => by simp [mk]
  refine mIf_intro (fun c1 => ?_) (fun _ => ?_)
  · have hkl : k < l1.length := by simp at c1; omega
    refine idx_ld (h1.ext (hx h8)) (by omega) (by omega) fun x _ => ld_row (x := c.2.1) (cx h8) rfl ?_
    rw [hN]
    refine round_spec (by omega) (by omega) ?_
    have q0 := Int.emod_nonneg x (show (N : Int) ≠ 0 by omega)
    have q1 := Int.emod_lt_of_pos x (show (0 : Int) < N by omega)
    generalize x % (N : Int) = i at q0 q1
    have hgi := get_in (d := ((0 : Int), (0 : Int))) (l := l) q0 (by omega)
    have hmi : (mk l)[i.toNat]? = some ((getZ (0, 0) l i).1 != 0) := by rw [mk, List.getElem?_map, hgi]; rfl
    refine idx_ld3 (h8.list (enc := Value.bool) 3 rfl) q0 (by rw [mlen]; omega) fun b x50 hx50 hcb => ?_
    rw [hmi] at hx50; cases hx50
    refine grab_spec h8 (rx h8) 1 2 rfl rfl (by decide) (by omega) fun H9 h9 => ⟨hcb H9 _ _ (h9.list (enc := Value.bool) 3 rfl) hmi, mIf_neg ?_ ?_⟩
    · rw [grabOk, inR_iff.2 ⟨q0, by omega⟩]
      cases h : (getZ (0, 0) l i).1 == 0 <;> simp [bne, h]
    · refine S_put (enc := Value.bool) (x := true) h9 3 rfl q0 (by rw [mlen]; omega) rfl fun H10 h10 => ?_
      rw [mk_grab q0 (by omega)] at h10
      rw [wrap_succ (by omega)]
      exact hag hkl _ _ ⟨rfl, grabL l i, grabV l v i, by rw [grabL_len]; exact hl, by rw [grabV_len]; exact hv, h10⟩
  clear hag again
  -- how many are left
  have hfl := freeN_le l
  refine mLoop_count N (fun j st Hk => st = ((freeN (l.take j) : Int), (j : Int)) ∧ Hk = H8) ⟨by simp [freeN], rfl⟩ ?_
  rintro j st H9 again hj ⟨rfl, rfl⟩ hag
  refine ld_row (x := c.2.1) (cx h8) rfl ?_
  rw [hN]
  refine mIf_intro (fun c1 => ?_) (fun c1 => ?_)
  · have hjN : j < N := by simpa using c1
    obtain ⟨u, hu⟩ : ∃ u, l[j]? = some u := ⟨_, List.getElem?_eq_getElem (by omega)⟩
    have hmj : (mk l)[j]? = some (u.1 != 0) := by rw [mk, List.getElem?_map, hu]; rfl
    refine mJoin_intro (idx_ld (h8.list (enc := Value.bool) 3 rfl) (by omega) (by rw [mlen]; omega) fun b hb => ?_)
    rw [Int.toNat_natCast, hmj] at hb; cases hb
    have ef := freeN_take l j u hu
    have hle : freeN (l.take j) ≤ j := Nat.le_trans (freeN_le _) (by rw [List.length_take]; omega)
    simp only []
    rw [wrap_succ (k := j) (by omega)]
    refine mIf_intro (fun c2 => ?_) (fun c2 => ?_)
    · rw [wrap_succ (by omega)]
      refine hag hjN _ _ ⟨?_, rfl⟩
      have hu0 : u.1 = 0 := by simpa using c2
      rw [ef, hu0]; simp
    · refine hag hjN _ _ ⟨?_, rfl⟩
      have hu0 : ¬ u.1 = 0 := by simpa using c2
      rw [ef]; simp [hu0]
  have hjN : j = N := by simp at c1; omega
  subst hjN
  have etk : l.take j = l := List.take_of_length_le (by omega)
  rw [etk]
  clear hag again etk
  -- all are taken
  refine mLoop_count (j + 2) (fun i st Hk => st.2.2 = (i : Int) ∧ -1 ≤ st.2.1 ∧ st.2.1 < j ∧ ∃ l v, l.length = j ∧ v.length = j ∧ st.1 = freeN l ∧ (∀ (m : Nat) (u : Use), (m : Int) ≤ st.2.1 → l[m]? = some u → u.1 ≠ 0) ∧ Stars Hk [baseO B, vecNO encU 2 s l, vecO (Value.int .i64) t v, vecO Value.bool q (mk l)])
    ⟨rfl, by show (-1 : Int) ≤ -1; decide, by show (-1 : Int) < j; omega, l, v, hl, hv, rfl, fun m u hm => absurd hm (by show ¬ ((m : Int) ≤ -1); omega), h8⟩ ?_
  clear h8 hl hv hfl
  rintro i ⟨F, last, st⟩ H10 again hi ⟨e, hm1, hlast, l, v, hl, hv, hF, hno, h8⟩ hag
  simp only at e hm1 hlast hF hno
  subst e; subst hF
  have hs8 : VecN encU 2 H10 s l := h8.get 1 rfl
  have hfl := freeN_le l
  refine ld_row (x := c.2.1) (cx h8) rfl ?_
  rw [hN, wrap64_id (x := (j : Int) + 2) (by omega) (by omega)]
  refine mIf_intro (fun c1 => ?_) (fun _ => ?_)
  rotate_left
  · refine free_spec (rx h8) (hs8.listN lenU) (by omega) fun H11 x11 => mJoin_intro (mIf_pos (by simp) (hawake H11 ((hx h8).trans x11)))
  have hij : i < j + 2 := by simp at c1; omega
  refine mJoin_intro (ld_row (x := c.2.1) (cx h8) rfl ?_)
  rw [hN]
  refine round_spec (by omega) (by omega) (take_spec h8 (rx h8) 1 2 rfl rfl (by decide) (by omega) (by omega) fun H11 h11 => ?_)
  have h11' : Stars H11 [baseO B, vecNO encU 2 s (grabL l (takeAt l (decide (p2 % (j : Int) ≤ (i : Int))))), vecO (Value.int .i64) t (grabV l v (takeAt l (decide (p2 % (j : Int) ≤ (i : Int))))), vecO Value.bool q (mk l)] := h11
  clear h11
  simp only []
  generalize decide (p2 % (j : Int) ≤ (i : Int)) = sp at h11' ⊢
  have may : ∀ b : Bool, b = (decide (2 < freeN l) || (sp && decide (0 < freeN l))) → grabOk l (takeAt l sp) = b ∧ (b = true → takeAt l sp = firstF l ∧ 0 < freeN l) := by
    rintro b rfl
    by_cases h0 : freeN l = 0
    · have : takeAt l sp = -1 := by unfold takeAt; split; rfl; exact first_no h0
      rw [this, grab_neg, h0]
      cases sp <;> simp
    · have hpos : 0 < freeN l := by omega
      by_cases h2 : !sp && decide (freeN l ≤ 2)
      · have : takeAt l sp = -1 := by unfold takeAt; rw [if_pos h2]
        rw [this, grab_neg]
        simp at h2
        simp [h2.1]; omega
      · have : takeAt l sp = firstF l := by unfold takeAt; rw [if_neg h2]
        rw [this, grab_first hpos]
        refine ⟨?_, fun _ => ⟨rfl, hpos⟩⟩
        simp at h2
        cases sp
        · simp at h2 ⊢; omega
        · simp; omega
  have fin : ∀ b : Bool, b = (decide (2 < freeN l) || (sp && decide (0 < freeN l))) → mIf (grabOk l (takeAt l sp) != b) (DoneD H false H11) (mIf (!(grabOk l (takeAt l sp))) (again (freeN l, last, IntKind.wrap .i64 ((i : Int) + 1)) H11)
      (mJoin (fun (s102 : Bool) (H104 : PH) =>
  mJoin (fun (s107 : Bool) (H109 : PH) =>
  mJoin (fun (s112 : Bool) (H114 : PH) =>
  mJoin (fun (s117 : Bool) (H119 : PH) =>
  mIf s117
  (DoneD H false H119)
  (mLoop (fun (s122 : Int) (H125 : PH) (again123 : Int → PH → Prop) =>
  mIf (decide (s122 < (if grabOk l (takeAt l sp) then takeAt l sp else 0)))
  (mIdx q 1 s122 fun a127 =>
  mLd .bool H125 a127 fun x129 =>
  mIf (!x129)
  (DoneD H false H125)
  (again123 (IntKind.wrap .i64 (s122 + 1)) H125))
  (mIdx q 1 (if grabOk l (takeAt l sp) then takeAt l sp else 0) fun a132 =>
  mSt H125 a132 ([.bool true]) fun H134 =>
  again (IntKind.wrap .i64 ((freeN l : Int) - 1), (if grabOk l (takeAt l sp) then takeAt l sp else 0), IntKind.wrap .i64 ((i : Int) + 1)) H134))
  (IntKind.wrap .i64 (last + 1)) H119))
  fun j118 =>
  mIf s112
  (j118 true H114)
  (usage_Table_State (some a) (if grabOk l (takeAt l sp) then takeAt l sp else 0) H114 fun y137 H136 =>
  j118 (y137 != 1) H136))
  fun j113 =>
  mIf s107
  (j113 true H109)
  (mIdx q 1 (if grabOk l (takeAt l sp) then takeAt l sp else 0) fun a138 =>
  mLd .bool H109 a138 fun x140 =>
  j113 x140 H109))
  fun j108 =>
  mIf s102
  (j108 true H104)
  (mLd (.int .i64) H104 (a11.add 1) fun x142 =>
  j108 (decide (x142 ≤ (if grabOk l (takeAt l sp) then takeAt l sp else 0))) H104))
  fun j103 =>
  mIf (decide ((if grabOk l (takeAt l sp) then takeAt l sp else 0) ≤ last))
  (j103 true H11)
  (j103 (decide ((if grabOk l (takeAt l sp) then takeAt l sp else 0) < 0)) H11))) := by
    intro b hb
    obtain ⟨m1, m2⟩ := may b hb
    rw [m1]
    refine mIf_neg (by simp) (mIf_intro (fun cb => ?_) (fun cb => ?_))
    · have cb' : grabOk l (takeAt l sp) = false := by rw [m1]; simpa using cb
      rw [wrap_succ (by omega)]
      refine hag hij _ _ ⟨rfl, hm1, hlast, l, v, hl, hv, rfl, hno, ?_⟩
      rw [grabL, grabV, cb'] at h11'
      exact h11'
    · have cb' : b = true := by simpa using cb
      obtain ⟨et, hpos⟩ := m2 cb'
      rw [cb', et]
      simp only [if_true]
      have hgr := free_grab (grab_first hpos)
      obtain ⟨z, u, ez, hu, hu0, hbe⟩ := first_ok hpos
      have hzl := (List.getElem?_eq_some_iff.1 hu).1
      rw [et, ez] at h11'
      rw [ez] at hgr ⊢
      have hgk : grabOk l (z : Int) = true := by rw [← ez]; exact grab_first hpos
      have hlz : last < z := by
        refine Int.not_le.1 fun hle => hno z u hle hu hu0
      have hmz : (mk l)[z]? = some false := by rw [mk, List.getElem?_map, hu, Option.map_some, hu0]; rfl
      refine mJoin_intro (mIf_neg (by simp; omega) (mJoin_intro (mIf_neg (by simp) (ld_row (x := c.2.1) (cx h11') rfl (mJoin_intro (mIf_neg (by rw [hN]; simp; omega) ?_))))))
      refine idx_ld (h11'.list (enc := Value.bool) 3 rfl) (by omega) (by rw [mlen]; omega) fun x hx' => ?_
      rw [Int.toNat_natCast, hmz] at hx'; cases hx'
      have hs11 : VecN encU 2 H11 s (grabL l (z : Int)) := h11'.get 1 rfl
      refine mJoin_intro (mIf_neg rfl (state_spec (rx h11') (hs11.listN lenU) ?_))
      have est : (getZ (0, 0) (grabL l (z : Int)) (z : Int)).1 = 1 := by
        rw [grabL, if_pos hgk, setS, Int.toNat_natCast, getZ_in (by omega) (by rw [Int.toNat_natCast, List.getElem?_set_self hzl])]
      rw [est]
      refine mIf_neg rfl ?_
      obtain ⟨w0, hw0⟩ := Int.eq_ofNat_of_zero_le (show 0 ≤ last + 1 by omega)
      rw [wrap64_id (x := last + 1) (by omega) (by omega), hw0]
      refine mLoop_count (z - w0) (fun m st Hk => st = ((w0 + m : Nat) : Int) ∧ Hk = H11) ⟨rfl, rfl⟩ ?_
      rintro m st H12 again2 hm ⟨rfl, rfl⟩ hag2
      refine mIf_intro (fun c3 => ?_) (fun c3 => ?_)
      · have hmz2 : w0 + m < z := by simp at c3; omega
        obtain ⟨w, hw⟩ : ∃ w, l[w0 + m]? = some w := ⟨_, List.getElem?_eq_getElem (by omega)⟩
        have hwn := hbe (w0 + m) w hmz2 hw
        have hmw : (mk l)[w0 + m]? = some true := by rw [mk, List.getElem?_map, hw]; simp [hwn]
        refine idx_ld (h11'.list (enc := Value.bool) 3 rfl) (by omega) (by rw [mlen]; omega) fun x hx' => ?_
        rw [Int.toNat_natCast, hmw] at hx'; cases hx'
        refine mIf_neg rfl ?_
        rw [wrap_succ (by omega)]
        exact hag2 (by omega) _ _ ⟨rfl, rfl⟩
      · refine S_put (enc := Value.bool) (x := true) h11' 3 rfl (by omega) (by rw [mlen]; omega) rfl fun H13 h13 => ?_
        have emk := mk_grab (l := l) (k := (z : Int)) (by omega) (by omega)
        rw [emk] at h13
        rw [wrap_succ (by omega), wrap64_id (x := (freeN l : Int) - 1) (by omega) (by omega)]
        refine hag hij _ _ ⟨rfl, by show (-1 : Int) ≤ z; omega, by show (z : Int) < j; omega, grabL l z, grabV l v z, by rw [grabL_len]; exact hl, by rw [grabV_len]; exact hv, by show (freeN l : Int) - 1 = _; omega, fun m' u' hm' hu' => ?_, h13⟩
        simp only at hm'
        rw [grabL, if_pos hgk, setS, Int.toNat_natCast] at hu'
        by_cases e : z = m'
        · subst e
          rw [List.getElem?_set_self hzl] at hu'
          cases hu'
          show (1 : Int) ≠ 0
          decide
        · rw [List.getElem?_set_ne e] at hu'
          exact hbe m' u' (by omega) hu'
  refine mJoin_intro (mIf_intro (fun c2 => fin true ?_) (fun c2 => mJoin_intro (mIf_intro (fun c3 => fin _ ?_) (fun c3 => fin false ?_))))
  · have : 2 < freeN l := by simp at c2; omega
    simp [this]
  · have : ¬ 2 < freeN l := by simp at c2; omega
    rw [c3]; simp [this]
  · have : ¬ 2 < freeN l := by simp at c2; omega
    rw [c3]; simp [this]
end Go.Proofs.Ytmgmjcjpmfdboaa

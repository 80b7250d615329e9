/- THE DOCUMENT's DISK: Crash, and both among other things. -/
import Derived.Test.YtdoldlinaghfbaaDiskO
set_option linter.unusedVariables false
set_option linter.unusedSimpArgs false
namespace Go.Proofs.Ytdoldlinaghfbaa
open Go Go.Kx

section
variable {H : PH} {L : List Ob} {i : Nat} {m : RM} {D : Dk} {B : PH}
/-- A disk as it is made is a disk. -/
theorem raw_disk {H' : PH} {a : Addr} {s f z : Sl} {sl : List Sl} {bl : List Blk} {fl : List Bool} {D : Dk} (h : Stars H' (rawO H a s f z sl bl fl)) (hz : z.len = 0) (h1 : D.fuse = -1) (h2 : D.acts = 0) (h3 : D.off = false) (h4 : D.faults = fl) :
    Stars H' (baseO H :: rdO ⟨a, s, Sl.nil, f, z, sl, []⟩ D :: rowsO sl bl) := by
  refine Stars.pack3 h (O := rdO ⟨a, s, Sl.nil, f, z, sl, []⟩ D) ⟨?_, h.get 3 rfl, .inl ⟨rfl, rfl⟩, by rw [h4]; exact h.get 2 rfl, ⟨fun hc => ?_, nil_has, fun hc => ?_, fun _ _ => nil_has, fun c h1 h2 => ?_, fun c hc => absurd hc nil_has⟩, hz⟩ fun c hc => ?_
  · unfold cellsR
    rw [h1, h2, h3]; exact h.get 1 rfl
  · exact h.dj 1 3 _ _ rfl rfl (by decide) a.block rfl hc
  · exact h.dj 1 2 _ _ rfl rfl (by decide) a.block rfl hc
  · exact h.dj 3 2 _ _ rfl rfl (by decide) c h1 h2
  · rcases hc with hc | hc | hc | hc
    · exact .inl hc
    · exact .inr (.inr hc)
    · exact absurd hc nil_has
    · exact .inr (.inl hc)
theorem rows_of {sl : List Sl} {bl : List Blk} {a : Addr} {s f z : Sl} {D : Dk} (h : (allO (rowsO sl bl)).pred B) (hl : sl.length = bl.length) (hs : D.safe = bl) (hh : D.held = []) : Rows' B ⟨a, s, Sl.nil, f, z, sl, []⟩ D := by
  have h' : Stars B (rowsO sl bl) := h
  refine ⟨by rw [hs]; exact hl, fun i s b h1 h2 => ?_, by rw [hh]; rfl, fun i w v h1 _ => by simp at h1⟩
  rw [hs] at h2
  exact Vec.list (h'.get i (rowsO_get h1 h2) : Vec (Value.int .u8) B s b.1)
theorem crash_tear (m : List Int) (st : List Blk × Bool) (k : Nat) (w : Int × Blk) (hw : w.1.toNat < st.1.length) :
    crashOne m st k w = (st.1.set w.1.toNat (tear (st.1.getD w.1.toNat zeroB) w.2 (if pickAt m k % 3 = 2 ∧ st.2 = false then (pickAt m k / 3).toNat else if pickAt m k % 3 = 1 then 64 else 0)), st.2 || decide (pickAt m k % 3 = 2)) := by
  have hg : st.1[w.1.toNat]? = some (st.1.getD w.1.toNat zeroB) := by simp [List.getD, hw]
  unfold crashOne
  by_cases e1 : pickAt m k % 3 = 1
  · rw [if_pos e1, if_neg (by omega), if_pos e1, tear_all]; simp [e1]
  · rw [if_neg e1]
    by_cases e2 : pickAt m k % 3 = 2 ∧ st.2 = false
    · rw [if_pos e2, if_pos e2]; simp [e2.1]
    · rw [if_neg e2, if_neg e2, if_neg e1, tear_none, set_same hg]
      by_cases e3 : pickAt m k % 3 = 2
      · have : st.2 = true := by
          cases h : st.2 with
          | true => rfl
          | false => exact absurd ⟨e3, h⟩ e2
        obtain ⟨x, y⟩ := st
        simp at this
        simp [this]
      · simp [e3]
theorem rcrash_raw {p : Sl} {mm : List Int} {Q : Option Addr → PH → Prop} (d : RdAt H m D) (x : Ext B H) (r : Rows' B m D) (sm : Small D) (h0 : 0 < D.now.length) (hp : Ints H p mm)
    (hQ : ∀ a s f z sl H', z.len = 0 → sl.length = D.safe.length → Stars H' (rawO H a s f z sl (crashTo mm D.safe D.held D.held.length).1 D.faults) → Q (some a) H') : keelsonref1_Disk_Crash (some m.a) p H Q := by
  have hl := rsmall_len r sm d
  have := sm.now; have hsl := sm.safe; have hfl := sm.faults; have hhl := sm.held
  refine nil_some (ld_row (x := m.s) d.row rfl ?_)
  rw [hl]
  refine rnew_spec (fun h => absurd ⟨by omega, by omega⟩ h) fun _ a s f sl H1 hsl1 h1 => ?_
  rw [Int.toNat_natCast] at hsl1 h1
  refine fun r7 H2 hn2 => ?_
  have x2 := Ext.newS hn2
  have h2 := h1.new (O' := vecO Sl.v r7 []) x2 (vec_new0 hn2) fun c hc => Own0.ofNew hn2 c hc
  have d2 : RdAt H2 m D := d.agree fun c o _ ho => h2.base c o ho
  have lz : ListAt Sl.v H2 m.z [] := ⟨by rw [d.zl]; rfl, by rw [d.zl]; omega, fun i x hx => by simp at hx⟩
  refine nil_some (ld_row (x := m.z) d2.row rfl (S_app (enc := Sl.v) (ys := []) h2 (rawO H a s f Sl.nil sl (List.replicate D.now.length zeroB) (List.replicate D.now.length false)).length (by rw [List.getElem?_append_right (Nat.le_refl _), Nat.sub_self]; rfl) lz cvSl rfl (by simp) fun z H3 h3 => nil_some ?_))
  have vz : Vec Sl.v H3 z [] := h3.get (rawO H a s f Sl.nil sl (List.replicate D.now.length zeroB) (List.replicate D.now.length false)).length (by rw [List.getElem?_set_self (by simp)])
  have hz : z.len = 0 := vz.list.1
  rw [List.set_append_right _ _ (Nat.le_refl _), Nat.sub_self] at h3
  have h3' := Stars.init (O := vecO Sl.v z ([] ++ [])) h3
  refine S_st h3' 1 rfl (by simp [rcells]) rfl fun H4 h4 => ?_
  have h4' : Stars H4 (rawO H a s f z sl (List.replicate D.now.length zeroB) (List.replicate D.now.length false)) := h4
  -- the first loop: what is safe, and the faults
  refine mLoop_count D.now.length (fun k st Hk => st = (k : Int) ∧ Stars Hk (rawO H a s f z sl (D.safe.take k ++ List.replicate (D.now.length - k) zeroB) (D.faults.take k ++ List.replicate (D.now.length - k) false)))
    ⟨rfl, by simpa using h4'⟩ ?_
  rintro k st H5 again hk ⟨rfl, h5⟩ hag
  have d5 : RdAt H5 m D := d.agree fun c o _ ho => h5.base c o ho
  refine nil_some (ld_row (x := m.s) d5.row rfl ?_)
  rw [hl]
  refine mIf_intro (fun c => ?_) (fun c => ?_)
  · have hkn : k < D.now.length := by simpa using c
    have sx : ∀ K : Sl → Prop, K s → mLd Sl.v H5 (a.add 0) K := fun K hK => S_ld h5 1 rfl rfl hK
    refine nil_some (sx _ (idx_ld (h5.list (enc := Sl.v) 3 rfl) (by omega) (by omega) fun q hq => nil_some (ld_row (x := m.s) d5.row rfl (idx_ld d5.safe.list (by omega) (by have := r.sl; omega) fun q0 hq0 => ?_))))
    rw [Int.toNat_natCast] at hq hq0
    have hsk : D.safe[k]? = some (D.safe[k]'(by omega)) := by simp
    generalize D.safe[k]'(by omega) = b at hsk
    have hb := (r.s k q0 b hq0 hsk).ext (x.trans h5.base)
    have hrow : (rawO H a s f z sl (D.safe.take k ++ List.replicate (D.now.length - k) zeroB) (D.faults.take k ++ List.replicate (D.now.length - k) false))[k + 4]? = some (vecO (Value.int .u8) q zeroB.1) := by
      show (rowsO sl (D.safe.take k ++ List.replicate (D.now.length - k) zeroB))[k]? = _
      refine rowsO_get hq ?_
      rw [List.getElem?_append_right (by simp; omega), List.getElem?_replicate, if_pos (by simp; omega)]
    refine S_copy h5 (k + 4) hrow hb cvU fun x5 H6 h6 => ?_
    have eb : b.1.take zeroB.1.length ++ zeroB.1.drop b.1.length = b.1 := by rw [zeroB.2, b.2, List.take_of_length_le (by rw [b.2]; omega), List.drop_of_length_le (by rw [zeroB.2]; omega), List.append_nil]
    rw [eb] at h6
    have hset : ∀ (l : List Blk), l.length = k → (l ++ List.replicate (D.now.length - k) zeroB).set k b = l ++ [b] ++ List.replicate (D.now.length - (k + 1)) zeroB := fun l hl => by
      rw [show D.now.length - k = (D.now.length - (k + 1)) + 1 by omega, List.replicate_succ, List.set_append_right _ _ (by omega), hl, Nat.sub_self]; simp
    have h6' : Stars H6 (rawO H a s f z sl (D.safe.take (k + 1) ++ List.replicate (D.now.length - (k + 1)) zeroB) (D.faults.take k ++ List.replicate (D.now.length - k) false)) := by
      have e : (rawO H a s f z sl (D.safe.take k ++ List.replicate (D.now.length - k) zeroB) (D.faults.take k ++ List.replicate (D.now.length - k) false)).set (k + 4) (vecO (Value.int .u8) q b.1) = rawO H a s f z sl (D.safe.take (k + 1) ++ List.replicate (D.now.length - (k + 1)) zeroB) (D.faults.take k ++ List.replicate (D.now.length - k) false) := by
        unfold rawO
        simp only [List.set_cons_succ]
        rw [rowsO_set b hq, hset _ (by simp; omega), List.take_add_one, hsk]; rfl
      rw [e] at h6; exact h6
    have d6 : RdAt H6 m D := d.agree fun c o _ ho => h6'.base c o ho
    have fx : ∀ K : Sl → Prop, K f → mLd Sl.v H6 (a.add 2) K := fun K hK => S_ld h6' 1 rfl rfl hK
    refine nil_some (fx _ (nil_some (ld_row (x := m.f) d6.row rfl (idx_ld d6.faults.list (by omega) (by omega) fun y hy => ?_))))
    rw [Int.toNat_natCast] at hy
    refine S_put (enc := Value.bool) (x := y) h6' 2 rfl (by omega) (by simp; omega) rfl fun H7 h7 => ?_
    rw [wrap_succ (by omega)]
    refine hag hkn _ _ ⟨rfl, ?_⟩
    have ef : (D.faults.take k ++ List.replicate (D.now.length - k) false).set (k : Int).toNat y = D.faults.take (k + 1) ++ List.replicate (D.now.length - (k + 1)) false := by
      rw [Int.toNat_natCast, show D.now.length - k = (D.now.length - (k + 1)) + 1 by omega, List.replicate_succ, List.set_append_right _ _ (by simp; omega)]
      have : k - (List.take k D.faults).length = 0 := by simp; omega
      rw [this, List.take_add_one, hy]; simp
    rw [ef] at h7
    exact h7
  have hkn : k = D.now.length := by simp at c; omega
  subst hkn
  have eS : D.safe.take D.now.length ++ List.replicate (D.now.length - D.now.length) zeroB = D.safe := by rw [List.take_of_length_le (by omega)]; simp
  have eF : D.faults.take D.now.length ++ List.replicate (D.now.length - D.now.length) false = D.faults := by rw [List.take_of_length_le (by omega)]; simp
  rw [eS, eF] at h5
  -- the second loop: what is held
  refine mLoop_count D.held.length (fun k st Hk => st = ((crashTo mm D.safe D.held k).2, (k : Int)) ∧ Stars Hk (rawO H a s f z sl (crashTo mm D.safe D.held k).1 D.faults)) ⟨rfl, h5⟩ ?_
  rintro k st H8 again8 hk8 ⟨rfl, h8⟩ hag8
  have d8 : RdAt H8 m D := d.agree fun c o _ ho => h8.base c o ho
  have hml := r.hl
  have hvl : (m.h.len : Int) = D.held.length := by rw [d8.held.lenI, hml]
  refine nil_some (ld_row (x := m.h) d8.row rfl ?_)
  rw [hvl]
  refine mIf_intro (fun c3 => ?_) (fun c3 => ?_)
  · have hkl : k < D.held.length := by simpa using c3
    have hv : D.held[k]? = some (D.held[k]'hkl) := by simp [hkl]
    generalize D.held[k]'hkl = v at hv
    obtain ⟨v0, v1⟩ := sm.at_ v (List.mem_of_getElem? hv)
    have hlen := crashTo_length mm D.safe D.held k
    have hstep : crashTo mm D.safe D.held (k + 1) = crashOne mm (crashTo mm D.safe D.held k) k v := by
      show (match D.held[k]? with | some w => _ | none => _) = _
      rw [hv]
    rw [crash_tear mm _ k v (by omega)] at hstep
    obtain ⟨p0, p1⟩ := pick_le mm k
    have e3 : (pickAt mm k).tmod 3 = pickAt mm k % 3 := Int.tmod_eq_emod_of_nonneg p0
    have ed : IntKind.wrap .i64 (Int.tdiv (pickAt mm k) 3) = pickAt mm k / 3 := by rw [Int.tdiv_eq_ediv_of_nonneg p0, wrap64_id (by omega) (by omega)]
    -- the copy of so many bytes
    have go : ∀ (t : Bool) (n : Nat), n ≤ 64 → n = (if pickAt mm k % 3 = 2 ∧ (crashTo mm D.safe D.held k).2 = false then (pickAt mm k / 3).toNat else if pickAt mm k % 3 = 1 then 64 else 0) → t = ((crashTo mm D.safe D.held k).2 || decide (pickAt mm k % 3 = 2)) →
        mNil (some a) fun a89 => mLd Sl.v H8 (a89.add 0) fun x91 => mNil (some m.a) fun a93 => mLd Sl.v H8 (a93.add 1) fun x95 => mIdx x95 2 (k : Int) fun a97 => mLd (.int .i64) H8 (a97.add 0) fun x99 => mIdx x91 1 x99 fun a101 => mLd Sl.v H8 a101 fun x103 =>
        mNil (some m.a) fun a105 => mLd Sl.v H8 (a105.add 1) fun x107 => mIdx x107 2 (k : Int) fun a109 => mLd Sl.v H8 (a109.add 1) fun x111 => mCut x111 1 0 (n : Int) fun r114 => mCopy H8 1 x103 r114 fun x115 H116 => again8 (t, IntKind.wrap .i64 ((k : Int) + 1)) H116 := by
      intro t n hn64 en et
      have sx : ∀ K : Sl → Prop, K s → mLd Sl.v H8 (a.add 0) K := fun K hK => S_ld h8 1 rfl rfl hK
      refine nil_some (sx _ (nil_some (ld_row (x := m.h) d8.row rfl (idxN d8.held (by omega) (by omega) fun a1 w el => ?_))))
      have hw := el.get
      rw [Int.toNat_natCast] at hw
      obtain ⟨w1, w2⟩ := r.h k w v hw hv
      have l3 := h8.list (enc := Sl.v) 3 rfl
      have hrest : ∀ q, sl[v.1.toNat]? = some q → mNil (some m.a) fun a105 => mLd Sl.v H8 (a105.add 1) fun x107 => mIdx x107 2 (k : Int) fun a109 => mLd Sl.v H8 (a109.add 1) fun x111 => mCut x111 1 0 (n : Int) fun r114 => mCopy H8 1 q r114 fun x115 H116 => again8 (t, IntKind.wrap .i64 ((k : Int) + 1)) H116 := by
        intro q hq
        refine nil_some (ld_row (x := m.h) d8.row rfl (idxN d8.held (by omega) (by omega) fun a2 w' el2 => ?_))
        have hw' := el2.get
        rw [Int.toNat_natCast, hw] at hw'
        cases hw'
        refine ⟨w.2, el2.cell lenP rfl, cut_list (w2.ext (x.trans h8.base)) (by decide) (by omega) (by rw [v.2.2]; omega) fun q2 lq2 _ => ?_⟩
        rw [Int.toNat_natCast, Int.toNat_zero, List.drop_zero, Nat.sub_zero] at lq2
        have hbk : (crashTo mm D.safe D.held k).1[v.1.toNat]? = some ((crashTo mm D.safe D.held k).1.getD v.1.toNat zeroB) := by
          have : v.1.toNat < (crashTo mm D.safe D.held k).1.length := by omega
          simp [List.getD, this]
        generalize hold : (crashTo mm D.safe D.held k).1.getD v.1.toNat zeroB = old at hbk hstep
        have hrow : (rawO H a s f z sl (crashTo mm D.safe D.held k).1 D.faults)[v.1.toNat + 4]? = some (vecO (Value.int .u8) q old.1) := by
          show (rowsO sl (crashTo mm D.safe D.held k).1)[v.1.toNat]? = _
          exact rowsO_get hq hbk
        refine S_copy h8 (v.1.toNat + 4) hrow lq2 cvU fun x5 H9 h9 => ?_
        have et2 : (v.2.1.take n).take old.1.length ++ old.1.drop (v.2.1.take n).length = (tear old v.2 n).1 := by
          simp only [tear]
          rw [old.2, List.take_take, Nat.min_eq_right hn64, List.length_take, v.2.2, Nat.min_eq_left hn64]
        rw [et2] at h9
        have es : (rawO H a s f z sl (crashTo mm D.safe D.held k).1 D.faults).set (v.1.toNat + 4) (vecO (Value.int .u8) q (tear old v.2 n).1) = rawO H a s f z sl (crashTo mm D.safe D.held (k + 1)).1 D.faults := by
          unfold rawO
          simp only [List.set_cons_succ]
          rw [rowsO_set _ hq, hstep, ← en]
        rw [es] at h9
        rw [wrap_succ (by omega)]
        exact hag8 hkl _ _ ⟨by rw [hstep, et], h9⟩
      refine ⟨w.1, el.cell lenP rfl, idx_ld l3 (by omega) (by omega) fun q hq => ?_⟩
      have : w.1.toNat = v.1.toNat := by omega
      rw [this] at hq
      exact hrest q hq
    have main : mJoin (fun (s76 : Int) (H78 : PH) => mJoin (fun (s81 : Bool) (H83 : PH) => mJoin (fun (s85 : Bool × Int) (H87 : PH) => mNil (some a) fun a89 => mLd Sl.v H87 (a89.add 0) fun x91 => mNil (some m.a) fun a93 => mLd Sl.v H87 (a93.add 1) fun x95 => mIdx x95 2 (k : Int) fun a97 => mLd (.int .i64) H87 (a97.add 0) fun x99 => mIdx x91 1 x99 fun a101 => mLd Sl.v H87 a101 fun x103 =>
        mNil (some m.a) fun a105 => mLd Sl.v H87 (a105.add 1) fun x107 => mIdx x107 2 (k : Int) fun a109 => mLd Sl.v H87 (a109.add 1) fun x111 => mCut x111 1 0 s85.2 fun r114 => mCopy H87 1 x103 r114 fun x115 H116 => again8 (s85.1, IntKind.wrap .i64 ((k : Int) + 1)) H116)
        fun j86 => mIf s81 (j86 (true, IntKind.wrap .i64 (Int.tdiv (pickAt mm k) 3)) H83) (j86 ((crashTo mm D.safe D.held k).2, s76) H83))
        fun j82 => mIf ((Int.tmod (pickAt mm k) 3) == 2) (j82 (!(crashTo mm D.safe D.held k).2) H78) (j82 false H78))
        fun j77 => mIf ((Int.tmod (pickAt mm k) 3) == 1) (j77 64 H8) (j77 0 H8) := by
      rw [e3, ed]
      refine mJoin_intro (mIf_intro (fun e1 => ?_) (fun e1 => ?_))
      · have e1' : pickAt mm k % 3 = 1 := by simpa using e1
        refine mJoin_intro (mIf_neg (by rw [e1']; rfl) (mJoin_intro (mIf_neg rfl (go _ 64 (by decide) ?_ ?_))))
        · rw [if_neg (by omega), if_pos e1']
        · simp [e1']
      · have e1' : ¬ pickAt mm k % 3 = 1 := by simpa using e1
        refine mJoin_intro (mIf_intro (fun e2 => ?_) (fun e2 => ?_))
        · have e2' : pickAt mm k % 3 = 2 := by simpa using e2
          refine mJoin_intro (mIf_intro (fun ht => ?_) (fun ht => ?_))
          · have ht' : (crashTo mm D.safe D.held k).2 = false := by simpa using ht
            have eN : pickAt mm k / 3 = (((pickAt mm k / 3).toNat : Nat) : Int) := by omega
            rw [eN]
            refine go true _ (by omega) ?_ ?_
            · rw [if_pos ⟨e2', ht'⟩]
            · simp [e2']
          · have ht' : (crashTo mm D.safe D.held k).2 = true := by simpa using ht
            refine go _ 0 (by decide) ?_ ?_
            · rw [if_neg (by rw [ht']; simp), if_neg e1']
            · simp [ht']
        · have e2' : ¬ pickAt mm k % 3 = 2 := by simpa using e2
          refine mJoin_intro (mIf_neg rfl (go _ 0 (by decide) ?_ ?_))
          · rw [if_neg (by simp [e2']), if_neg e1']
          · simp [e2']
    refine mJoin_intro (mIf_intro (fun hlp => ?_) (fun hlp => ?_))
    · have hkm : k < mm.length := by simp at hlp; rw [hp.1] at hlp; omega
      refine idx_ld (hp.ext h8.base) (by simp) (by simpa using hkm) fun y hy => mod_spec (by decide) (by decide) ?_
      rw [Int.toNat_natCast] at hy
      have : y % 192 = pickAt mm k := by rw [pickAt, if_pos hkm]; simp [List.getD, hy]
      rw [this]; exact main
    · have hkm : ¬ k < mm.length := by simp at hlp; rw [hp.1] at hlp; omega
      have : pickAt mm k = 0 := by rw [pickAt, if_neg hkm]
      have main' := main
      rw [this] at main'; exact main'
  · have : k = D.held.length := by simp at c3; omega
    subst this
    exact hQ a s f z sl H8 hz (by omega) h8
end

section
variable {H : PH} {L' : List Ob} {m : RM} {D : Dk} {B : PH}
theorem raw_frozen {H' : PH} {a : Addr} {s f z : Sl} {sl : List Sl} {bl : List Blk} {fl : List Bool} {D : Dk} (h : Stars H (baseO B :: L')) (k : Stars H' (rawO H a s f z sl bl fl)) (hz : z.len = 0) (hl : sl.length = bl.length) (h1 : D.fuse = -1) (h2 : D.acts = 0) (h3 : D.off = false) (h4 : D.faults = fl) (h5 : D.safe = bl) (h6 : D.held = []) :
    ∃ B' m', m'.a = a ∧ Ext B B' ∧ Rows' B' m' D ∧ Stars H' (baseO B' :: (L' ++ [rdO m' D])) := by
  have k1 := raw_disk k hz h1 h2 h3 h4
  have k2 : Stars H' ([baseO H, rdO ⟨a, s, Sl.nil, f, z, sl, []⟩ D] ++ [allO (rowsO sl bl)]) := Stars.bundle (L := [baseO H, rdO ⟨a, s, Sl.nil, f, z, sl, []⟩ D]) k1
  have k3 := h.over k2
  have k4 : Stars H' (baseO B :: (L' ++ [rdO ⟨a, s, Sl.nil, f, z, sl, []⟩ D]) ++ [allO (rowsO sl bl)]) := by
    have e : baseO B :: (L' ++ [rdO ⟨a, s, Sl.nil, f, z, sl, []⟩ D]) ++ [allO (rowsO sl bl)] = baseO B :: L' ++ [rdO ⟨a, s, Sl.nil, f, z, sl, []⟩ D, allO (rowsO sl bl)] := by simp
    rw [e]; exact k3
  obtain ⟨B', xB, pB, k5⟩ := k4.freeze
  exact ⟨B', ⟨a, s, Sl.nil, f, z, sl, []⟩, rfl, xB, rows_of pB hl h5 h6, k5⟩
theorem R_new {n : Int} {Q : Option Addr → PH → Prop} (h : Stars H (baseO B :: L')) (hbad : ¬ (1 ≤ n ∧ n ≤ 4096) → Q none H)
    (hQ : 1 ≤ n ∧ n ≤ 4096 → ∀ B' m' H', Ext B B' → Rows' B' m' (fresh n.toNat) → Stars H' (baseO B' :: (L' ++ [rdO m' (fresh n.toNat)])) → Q (some m'.a) H') : keelsonref1_NewDisk n H Q := by
  refine rnew_spec hbad fun hg a s f sl H' hl k => ?_
  obtain ⟨B', m', rfl, x, r, k'⟩ := raw_frozen (D := fresh n.toNat) h k rfl (by simp [hl]) rfl rfl rfl rfl rfl rfl
  exact hQ hg B' m' H' x r k'
theorem R_crash {i : Nat} {p : Sl} {mm : List Int} {Q : Option Addr → PH → Prop} (h : Stars H (baseO B :: L')) (hi : L'[i]? = some (rdO m D)) (r : Rows' B m D) (sm : Small D) (h0 : 0 < D.now.length) (hp : Ints H p mm)
    (hQ : ∀ B' m' H', Ext B B' → Rows' B' m' (D.crash mm) → Stars H' (baseO B' :: (L' ++ [rdO m' (D.crash mm)])) → Q (some m'.a) H') : keelsonref1_Disk_Crash (some m.a) p H Q := by
  have d : RdAt H m D := h.get (i + 1) (by simpa using hi)
  refine rcrash_raw d h.base r sm h0 hp fun a s f z sl H' hz hl k => ?_
  obtain ⟨B', m', rfl, x, r', k'⟩ := raw_frozen (D := D.crash mm) h k hz (by rw [hl, crashTo_length]) rfl rfl rfl rfl rfl rfl
  exact hQ B' m' H' x r' k'
end
end Go.Proofs.Ytdoldlinaghfbaa

/- WHAT THE FUNCTIONS OF vdisk DO: Crash. -/
import Derived.Test.YtdoldlinaghfbaaDiskC
set_option linter.unusedVariables false
set_option linter.unusedSimpArgs false
namespace Go.Proofs.Ytdoldlinaghfbaa
open Go Go.Kx

theorem VecN.some_a {α : Type} {enc : α → List Value} {sz : Nat} {H : PH} {s : Sl} {l : List α} (h : VecN enc sz H s l) (hl : 0 < l.length) : s.a.isNone = false := by
  rcases h with ⟨rfl, rfl⟩ | ⟨b, sp, e, spare, rfl, _⟩
  · simp at hl
  · rfl
theorem Vec.some_a {α : Type} {enc : α → Value} {H : PH} {s : Sl} {l : List α} (h : Vec enc H s l) (hl : 0 < l.length) : s.a.isNone = false := by
  rcases h with ⟨rfl, rfl⟩ | ⟨b, sp, e, rfl, _⟩
  · simp at hl
  · rfl
theorem clone_blocks {H : PH} {s : Sl} {l : List Blk} {Q : Sl → PH → Prop} (h : VecN encB 64 H s l) (h0 : 0 < l.length) (hl : l.length ≤ 4096) (hQ : ∀ r H', Ext H H' → Own0 H r → VecN encB 64 H' r l → Q r H') : slices_Clone_Slvdisk_block_vdisk_block s H Q := by
  refine mIf_neg (VecN.some_a h h0) fun r1 H1 hn => ?_
  have x1 := Ext.newS hn
  have o1 : Own0 H r1 := .ofNew hn
  refine appN (l := []) lenB (by decide) (vecN_new0 hn) ((h.ext x1).cells lenB (by decide)) h.len cvB (by simp) (by simp; omega) fun r2 H2 v2 k2 n2 => hQ r2 H2 (x1.keep k2 o1) (fun c hc => ?_) (by simpa using v2)
  rcases n2 c hc with hh | hh
  · exact o1 c hh
  · exact x1.none hh
theorem clone_bools {H : PH} {s : Sl} {l : List Bool} {Q : Sl → PH → Prop} (h : Vec Value.bool H s l) (h0 : 0 < l.length) (hl : l.length ≤ 4096) (hQ : ∀ r H', Ext H H' → Own0 H r → Vec Value.bool H' r l → Q r H') : slices_Clone_Slbool_bool s H Q := by
  refine mIf_neg (Vec.some_a h h0) fun r1 H1 hn => ?_
  have x1 := Ext.newS hn
  have o1 : Own0 H r1 := .ofNew hn
  refine app_vec (l := []) (vec_new0 hn) (h.ext x1).list (fun _ => rfl) rfl (by simp; omega) fun r2 H2 v2 k2 n2 => hQ r2 H2 (x1.keep k2 o1) (fun c hc => ?_) (by simpa using v2)
  rcases n2 c hc with hh | hh
  · exact o1 c hh
  · exact x1.none hh

/-- The new bytes ahead, the old ones behind. -/
def tear (old new : Blk) (n : Nat) : Blk := ⟨new.1.take n ++ old.1.drop n, by simp [old.2, new.2]; omega⟩
theorem copy_elem {H : PH} {s src : Sl} {l : List Blk} {i n cp : Nat} {x y : Blk} {a sa : Addr} {K : Int → PH → Prop} (el : Elem encB 64 H s l i x a) (hn : n ≤ 64) (hsrc : src.a = some sa) (hsl : n ≤ src.len) (hc : cellsAt H sa n = some ((y.1.take n).map (Value.int .u8)))
    (hK : ∀ r H', VecN encB 64 H' s (l.set i (tear x y n)) → Keep s H H' → K r H') : mCopy H 1 ⟨some a, n, cp⟩ src K := by
  obtain ⟨b, off, cs, e, ha, hb, hle, hv, hk⟩ := stN (y := tear x y n) (K := fun H' => ∀ r, K r H') lenB el (cvB _) fun H' v k r => hK r H' v k
  obtain ⟨⟨b', sp, e', spare, rfl, h2, h3, rfl⟩, hx⟩ := el
  have hi := (List.getElem?_eq_some_iff.1 hx).1
  cases ha
  rw [h3] at hb
  have hcs : cs = l.flatMap encB ++ spare := by
    have : (l.flatMap encB ++ spare).toArray = cs.toArray := by cases hb; rfl
    simpa using (congrArg Array.toList this).symm
  have he : e' = e := by cases hb; rfl
  subst hcs; subst he
  have hyl : ((y.1.take n).map (Value.int .u8)).length = n := by simp [y.2]; omega
  have hs := flat_split (enc := encB) hx
  have hl := take_flat_len lenB (l := l) (i := i) (by omega)
  refine ⟨(y.1.take n).map (Value.int .u8), ?_, by rw [List.all_map]; exact List.all_eq_true.2 fun z _ => rfl, _, i * 64, _, e', rfl, h3, ?_, ?_⟩
  · have em : min src.len n = n := by omega
    simp only [sliceCells, hsrc, em, Nat.mul_one]; exact hc
  · rw [hyl]; rw [lenB] at hle; omega
  · have eput : putAt (l.flatMap encB ++ spare) (i * 64) ((y.1.take n).map (Value.int .u8)) = putAt (l.flatMap encB ++ spare) (i * 64) (encB (tear x y n)) := by
      rw [putAt_eq _ _ _ (by rw [hyl]; rw [lenB] at hle; omega), putAt_eq _ _ _ hle, hyl, lenB]
      have et : encB (tear x y n) = (y.1.take n).map (Value.int .u8) ++ (encB x).drop n := by simp [encB, tear]
      rw [et, List.append_assoc, List.append_assoc, List.append_assoc]
      congr 2
      generalize (l.drop (i + 1)).flatMap encB = rest at hs
      generalize (l.take i).flatMap encB = pre at hs hl
      rw [hs]
      simp only [List.append_assoc]
      rw [List.drop_append, List.drop_of_length_le (by omega), List.nil_append, hl, Nat.add_sub_cancel_left, List.drop_append_of_le_length (by rw [lenB]; omega)]
      congr 1
      rw [List.drop_append, List.drop_of_length_le (by omega), List.nil_append, hl, Nat.add_sub_cancel_left, List.drop_append_of_le_length (by rw [lenB]; omega), List.drop_of_length_le (by rw [lenB]; omega), List.nil_append]
    rw [eput]; exact hk _

def pickAt (m : List Int) (k : Nat) : Int := if k < m.length then m.getD k 0 % 192 else 0
theorem pick_le (m : List Int) (k : Nat) : 0 ≤ pickAt m k ∧ pickAt m k < 192 := by
  unfold pickAt
  split
  · exact ⟨Int.emod_nonneg _ (by decide), Int.emod_lt_of_pos _ (by decide)⟩
  · exact ⟨by decide, by decide⟩
def crashOne (m : List Int) (st : List Blk × Bool) (k : Nat) (w : Int × Blk) : List Blk × Bool :=
  if pickAt m k % 3 = 1 then (st.1.set w.1.toNat w.2, st.2)
  else if pickAt m k % 3 = 2 ∧ st.2 = false then (st.1.set w.1.toNat (tear (st.1.getD w.1.toNat zeroB) w.2 (pickAt m k / 3).toNat), true) else st
def crashTo (m : List Int) (safe : List Blk) (held : List (Int × Blk)) : Nat → List Blk × Bool
  | 0 => (safe, false)
  | k + 1 => match held[k]? with
    | some w => crashOne m (crashTo m safe held k) k w
    | none => crashTo m safe held k
theorem crashOne_length (m : List Int) (st : List Blk × Bool) (k : Nat) (w : Int × Blk) : (crashOne m st k w).1.length = st.1.length := by
  unfold crashOne; split
  · simp
  · split <;> simp
theorem crashTo_length (m : List Int) (safe : List Blk) (held : List (Int × Blk)) : ∀ k, (crashTo m safe held k).1.length = safe.length
  | 0 => rfl
  | k + 1 => by
    unfold crashTo
    split
    · rw [crashOne_length, crashTo_length m safe held k]
    · exact crashTo_length m safe held k
def Dk.crash (D : Dk) (m : List Int) : Dk := ⟨(crashTo m D.safe D.held D.held.length).1, (crashTo m D.safe D.held D.held.length).1, [], D.faults, -1, 0, false⟩

theorem pick_mod (x : Int) : (IntKind.wrap .i64 (x.tmod 192 + 192)).tmod 192 = x % 192 := by
  have h1 := Int.lt_tmod_of_pos x (show (0 : Int) < 192 by decide)
  have h2 := Int.tmod_lt_of_pos x (show (0 : Int) < 192 by decide)
  rw [wrap64_id (by omega) (by omega), Int.tmod_eq_emod_of_nonneg (by omega)]
  have h3 := Int.tmod_eq_emod (a := x) (b := 192)
  split at h3 <;> omega

theorem crash_spec {H : PH} {A : DA} {D : Dk} {p : Sl} {m : List Int} {Q : Option Addr → PH → Prop} (h : DiskAt H A D) (sm : Small D) (h0 : 0 < D.now.length) (hp : Ints H p m)
    (hQ : ∀ A' H', Ext H H' → DiskAt H' A' (D.crash m) → (∀ c, A'.foot c → H c = none) → Q (some A'.a) H') : vdisk_Disk_Crash (some A.a) p H Q := by
  have hsl := sm.safe
  have hfl := sm.faults
  have hnl := sm.now
  have hhl := sm.held
  refine mIf_neg rfl (nil_some (ld_row (x := A.s) h.row rfl (nil_some (ld_row (x := A.f) h.row rfl ?_))))
  refine clone_blocks h.safe (by omega) (by omega) fun r1 H1 x1 o1 v1 => ⟨(h.ext x1).row.cell rfl, clone_bools (h.ext x1).faults (by omega) (by omega) fun r2 H2 x2 o2 v2 => ?_⟩
  refine new_row fun a H3 x3 rw3 f3 => ?_
  have x13 := (x1.trans x2).trans x3
  have fa : H a.block = none := (x1.trans x2).none f3
  have o2' : Own0 H r2 := o2.ext x1
  have d12 : ∀ c, r1.has c → ¬ r2.has c := fun c h1 h2 => none_no (VecN.has_some v1 h1) (o2 c h2)
  have d1a : ¬ r1.has a.block := fun hc => none_no (VecN.has_some (v1.ext x2) hc) f3
  have d2a : ¬ r2.has a.block := fun hc => none_no (Vec.has_some v2 hc) f3
  refine nil_some (ld_row (x := A.h) (h.ext x13).row rfl ?_)
  rw [h.held.lenI]
  refine mLoop_count D.held.length (fun k s Hk => s = ((crashTo m D.safe D.held k).2, (k : Int)) ∧ Ext H Hk ∧ RowAt Hk a [Sl.v r1, Sl.v Sl.nil, Sl.v Sl.nil, Sl.v r2, .int .i64 (-1), .int .i64 0, .bool false] ∧ VecN encB 64 Hk r1 (crashTo m D.safe D.held k).1 ∧ Vec Value.bool Hk r2 D.faults)
    ⟨rfl, x13, rw3, (v1.ext (x2.trans x3)), v2.ext x3⟩ ?_
  rintro k s H4 again hk ⟨rfl, x4, rw4, v4, u4⟩ hag
  refine mIf_intro (fun hlt => ?_) (fun hge => ?_)
  · have hkl : k < D.held.length := by simpa using hlt
    have h4 := h.ext x4
    refine mJoin_intro (idxN h4.held (by omega) (by omega) fun a5 w el => ldN lenW el ?_)
    have hget := el.get
    rw [Int.toNat_natCast] at hget
    obtain ⟨w0, w1⟩ := sm.at_ w (List.mem_of_getElem? hget)
    have hstep : crashTo m D.safe D.held (k + 1) = crashOne m (crashTo m D.safe D.held k) k w := by
      show (match D.held[k]? with | some w => _ | none => _) = _
      rw [hget]
    refine new_row fun a6 H6 x6 r6 f6 => ⟨lenW w, st_row r6 (by rw [lenW]; rfl) (cvW w) fun H7 r7 k7 => ?_⟩
    have keep : ∀ c o, H4 c = some o → H7 c = some o := fun c o hc => k7 c o (x6 c o hc) fun e => by subst e; rw [f6] at hc; cases hc
    have x47 : Ext H4 H7 := keep
    have x7 := x4.trans x47
    have rw7 := rw4.ext x47
    have v7 := v4.ext x47
    have u7 := u4.ext x47
    have ew : IntKind.wrap .i64 ((k : Int) + 1) = ((k + 1 : Nat) : Int) := by rw [wrap64_id (by omega) (by omega)]; push_cast; rfl
    obtain ⟨p0, p1⟩ := pick_le m k
    have e3 : (pickAt m k).tmod 3 = pickAt m k % 3 := Int.tmod_eq_emod_of_nonneg p0
    have hlen7 := crashTo_length m D.safe D.held k
    have go : mIf ((pickAt m k).tmod 3 == 1)
        (mLd Sl.v H7 (a.add 0) fun x45 => mLd (.int .i64) H7 (a6.add 0) fun x47 => mLdA H7 (a6.add 1) 64 fun x49 => mIdx x45 64 x47 fun a51 => mStA H7 a51 64 x49 fun H53 => again ((crashTo m D.safe D.held k).2, IntKind.wrap .i64 ((k : Int) + 1)) H53)
        (mJoin (fun (s56 : Bool) (H58 : PH) => mIf s56
          (mLd Sl.v H58 (a.add 0) fun x61 => mLd (.int .i64) H58 (a6.add 0) fun x63 => mIdx x61 64 x63 fun a65 => mCutA 64 a65 1 0 (IntKind.wrap .i64 (Int.tdiv (pickAt m k) 3)) fun r68 => mCutA 64 (a6.add 1) 1 0 64 fun r70 => mCopy H58 1 r68 r70 fun x71 H72 => again (true, IntKind.wrap .i64 ((k : Int) + 1)) H72)
          (again ((crashTo m D.safe D.held k).2, IntKind.wrap .i64 ((k : Int) + 1)) H58))
        fun j57 => mIf ((pickAt m k).tmod 3 == 2) (j57 (!(crashTo m D.safe D.held k).2) H7) (j57 false H7)) := by
      rw [ew, e3]
      have stay : crashTo m D.safe D.held (k + 1) = crashTo m D.safe D.held k → again ((crashTo m D.safe D.held k).2, ((k + 1 : Nat) : Int)) H7 := fun he =>
        hag hkl _ _ ⟨by rw [he], x7, rw7, by rw [he]; exact v7, u7⟩
      refine mIf_intro (fun e1 => ?_) (fun e1 => ?_)
      · have e1' : pickAt m k % 3 = 1 := by simpa using e1
        have hst : crashTo m D.safe D.held (k + 1) = ((crashTo m D.safe D.held k).1.set w.1.toNat w.2, (crashTo m D.safe D.held k).2) := by rw [hstep, crashOne, if_pos e1']
        refine ld_row (x := r1) rw7 rfl (ld_row (x := w.1) r7 rfl ⟨encB w.2, ?_, ?_⟩)
        · rw [RowAt.part r7 (by rw [lenW]; omega)]
          show some ((encB w.2).take 64) = _
          rw [List.take_of_length_le (by rw [lenB]; omega)]
        · refine idxN v7 w0 (by rw [hlen7]; omega) fun a8 y el8 => ⟨lenB w.2, stN (y := w.2) lenB el8 (cvB _) fun H8 v8 k8 => hag hkl _ _ ⟨by rw [hst], x7.keep k8 o1, ?_, by rw [hst]; exact v8, ?_⟩⟩
          · exact ⟨rw7.1, rw7.2.1, let ⟨e, he⟩ := rw7.2.2; ⟨e, k8 _ _ he d1a⟩⟩
          · exact Vec.agree u7 fun c o hc ho => k8 c o ho fun hh => d12 c hh hc
      · have e1' : ¬ pickAt m k % 3 = 1 := by simpa using e1
        have tornway : pickAt m k % 3 = 2 → (crashTo m D.safe D.held k).2 = false → mLd Sl.v H7 (a.add 0) fun x61 => mLd (.int .i64) H7 (a6.add 0) fun x63 => mIdx x61 64 x63 fun a65 => mCutA 64 a65 1 0 (IntKind.wrap .i64 (Int.tdiv (pickAt m k) 3)) fun r68 => mCutA 64 (a6.add 1) 1 0 64 fun r70 => mCopy H7 1 r68 r70 fun x71 H72 => again (true, ((k + 1 : Nat) : Int)) H72 := by
          intro e2 ht
          have hst : crashTo m D.safe D.held (k + 1) = ((crashTo m D.safe D.held k).1.set w.1.toNat (tear ((crashTo m D.safe D.held k).1.getD w.1.toNat zeroB) w.2 (pickAt m k / 3).toNat), true) := by
            rw [hstep, crashOne, if_neg e1', if_pos ⟨e2, ht⟩]
          have ed : IntKind.wrap .i64 (Int.tdiv (pickAt m k) 3) = pickAt m k / 3 := by rw [Int.tdiv_eq_ediv_of_nonneg p0, wrap64_id (by omega) (by omega)]
          rw [ed]
          obtain ⟨N, hN⟩ := Int.eq_ofNat_of_zero_le (show 0 ≤ pickAt m k / 3 by omega)
          refine ld_row (x := r1) rw7 rfl (ld_row (x := w.1) r7 rfl (idxN v7 w0 (by rw [hlen7]; omega) fun a8 y el8 => ?_))
          refine ⟨_, ⟨by omega, by omega, by omega, rfl⟩, _, ⟨by omega, by omega, by omega, rfl⟩, ?_⟩
          have ea : (if 64 = (0 : Int).toNat then a8 else a8.add ((0 : Int).toNat * 1)) = a8 := by simp [add_zero']
          rw [ea, hN]
          have hgy : (crashTo m D.safe D.held k).1.getD w.1.toNat zeroB = y := by simp [List.getD, el8.get]
          have hsrc : cellsAt H7 (a6.add 1) N = some ((w.2.1.take N).map (Value.int .u8)) := by
            rw [RowAt.part r7 (by rw [lenW]; omega)]
            show some ((encB w.2).take N) = _
            simp [encB, List.map_take]
          refine copy_elem (y := w.2) (sa := a6.add 1) el8 (by omega) (by simp [add_zero']) (by simp; omega) (by simpa using hsrc) fun r H8 v8 k8 => hag hkl _ _ ⟨by rw [hst], x7.keep k8 o1, ?_, ?_, ?_⟩
          · exact ⟨rw7.1, rw7.2.1, let ⟨e, he⟩ := rw7.2.2; ⟨e, k8 _ _ he d1a⟩⟩
          · rw [hst, hgy, hN]
            simpa using v8
          · exact Vec.agree u7 fun c o hc ho => k8 c o ho fun hh => d12 c hh hc
        refine mJoin_intro (mIf_intro (fun e2 => ?_) (fun e2 => ?_))
        · have e2' : pickAt m k % 3 = 2 := by simpa using e2
          refine mIf_intro (fun ht => tornway e2' (by simpa using ht)) (fun ht => stay ?_)
          rw [hstep, crashOne, if_neg e1', if_neg (by simp at ht; simp [ht])]
        · have e2' : ¬ pickAt m k % 3 = 2 := by simpa using e2
          refine mIf_neg rfl (stay ?_)
          rw [hstep, crashOne, if_neg e1', if_neg (by simp [e2'])]
    refine mJoin_intro (mIf_intro (fun hlp => ?_) (fun hlp => ?_))
    · have hkm : k < m.length := by simp at hlp; rw [hp.1] at hlp; omega
      refine idx_ld (hp.ext x7) (by simp) (by simpa using hkm) fun x hx => ?_
      rw [show ((k : Int)).toNat = k by simp] at hx
      have : (IntKind.wrap .i64 (x.tmod 192 + 192)).tmod 192 = pickAt m k := by
        rw [pick_mod, pickAt, if_pos hkm]; simp [List.getD, hx]
      rw [this]; exact go
    · have hkm : ¬ k < m.length := by simp at hlp; rw [hp.1] at hlp; omega
      have : pickAt m k = 0 := by rw [pickAt, if_neg hkm]
      have go' := go
      rw [this] at go'; exact go'
  · have : k = D.held.length := by simp at hge; omega
    subst this
    have hlen4 := crashTo_length m D.safe D.held D.held.length
    refine ld_row (x := r1) rw4 rfl (clone_blocks v4 (by omega) (by omega) fun r3 H5 x5 o5 v5 => ?_)
    refine st_cell (rw4.ext x5) (by simp) rfl fun H6 rw6 k6 => ?_
    have f4 : H4 a.block ≠ none := by obtain ⟨e, he⟩ := rw4.2.2; rw [he]; simp
    have d3a : ¬ r3.has a.block := fun hc => f4 (o5 _ hc)
    refine hQ ⟨a, r1, r3, Sl.nil, r2⟩ H6 ((x4.trans x5).keepB k6 fa) ⟨rw6, ?_, ?_, .inl ⟨rfl, rfl⟩, ?_, ⟨d1a, d3a, nil_has, d2a, ?_, fun _ _ => nil_has, d12, fun _ _ => nil_has, ?_, fun c hc => absurd hc nil_has⟩⟩ ?_
    · exact (v4.ext x5).agree fun c o hc ho => k6 c o ho fun e => d1a (e ▸ hc)
    · exact v5.agree fun c o hc ho => k6 c o ho fun e => d3a (e ▸ hc)
    · exact Vec.agree (u4.ext x5) fun c o hc ho => k6 c o ho fun e => d2a (e ▸ hc)
    · exact fun c h1 h3 => none_no (VecN.has_some v4 h1) (o5 c h3)
    · exact fun c h3 h2 => none_no (Vec.has_some u4 h2) (o5 c h3)
    · rintro c (rfl | hc | hc | hc | hc)
      · exact fa
      · exact o1 c hc
      · exact x4.none (o5 c hc)
      · exact absurd hc nil_has
      · exact o2' c hc
end Go.Proofs.Ytdoldlinaghfbaa

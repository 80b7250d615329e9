/- THE LAW DiskSafe, on formulas: the second part. -/
import Derived.Test.YtdoldlinaghfbaaDiskS
set_option linter.unusedVariables false
set_option linter.unusedSimpArgs false
namespace Go.Proofs.Ytdoldlinaghfbaa
open Go Go.Kx

theorem get_mid {α : Type} (F G T : List α) (i : Nat) (h : i < G.length) : (F ++ G ++ T)[F.length + i]? = G[i]? := by
  rw [List.append_assoc, List.getElem?_append_right (by omega), Nat.add_sub_cancel_left, List.getElem?_append_left h]
theorem set_mid {α : Type} (F G T : List α) (i : Nat) (x : α) (h : i < G.length) : (F ++ G ++ T).set (F.length + i) x = F ++ G.set i x ++ T := by
  rw [List.append_assoc, List.set_append_right _ _ (by omega), Nat.add_sub_cancel_left, List.set_append_left _ _ h, List.append_assoc]
theorem amongO_len (xs : List (Sl × List Sl)) : (amongO xs).length = xs.length := by simp [amongO]
theorem AmongOk.other {held : List (Int × Blk)} {i j : Nat} {bl : List Blk} {b : Blk} (h : AmongOk held i bl) (hne : j ≠ i) : AmongOk (held ++ [((j : Int), b)]) i bl := by
  intro q w hq hw
  by_cases hl : q < held.length
  · rw [List.getElem?_append_left hl] at hq; exact h q w hq hw
  · rw [List.getElem?_append_right (by omega)] at hq
    have := (List.getElem?_eq_some_iff.1 hq).1
    simp at this
    have e0 : q - held.length = 0 := by omega
    rw [e0] at hq
    simp at hq
    subst hq
    exact absurd hw (by simpa using hne)
theorem AmongOk.snoc {held : List (Int × Blk)} {i : Nat} {bl : List Blk} {b : Blk} (h : AmongOk held i bl) : AmongOk (held ++ [((i : Int), b)]) i (bl ++ [b]) := by
  intro q w hq hw
  by_cases hl : q < held.length
  · rw [List.getElem?_append_left hl] at hq; exact List.mem_append_left _ (h q w hq hw)
  · rw [List.getElem?_append_right (by omega)] at hq
    have := (List.getElem?_eq_some_iff.1 hq).1
    simp at this
    have e0 : q - held.length = 0 := by omega
    rw [e0] at hq
    simp at hq
    subst hq
    exact List.mem_append_right _ (by simp)
/-- The part behind the crash: each byte is one of those that may be. -/
theorem safe_tail {H H0 B : PH} {A : DA} {D : Dk} {m : List Int} {a23 a69 : Addr} {old : List Sl} {xs : List (Sl × List Sl)} (d : DiskAt H A (D.crash m)) (g : Good 8 100 (D.crash m)) (hf : D.faults = List.replicate 8 false) (h8 : D.safe.length = 8)
    (r23 : RowAt H a23 (slots old)) (r69 : RowAt H a69 (slots (xs.map (·.1)))) (hxs : xs.length = 8) (ro : RowsAt B old D.safe) (hx : ∀ (i : Nat) (x : Sl × List Sl), xs[i]? = some x → ListAt Sl.v H x.1 x.2 ∧ x.2.length ≤ 30 ∧ ∃ bl, RowsAt B x.2 bl ∧ AmongOk D.held i bl) (x0 : Ext B H) (xH : Ext H0 H) :
    mLoop (fun (s132 : Int) (H135 : PH) (again133 : Int → PH → Prop) =>
  mIf (decide (s132 < 8))
  (vdisk_Disk_Read (some A.a) s132 H135 fun y138 y139 H137 =>
  mJoin (fun (s141 : Bool) (H143 : PH) =>
  mIf s141
  (DoneD H0 false H143)
  (mLoop (fun (s146 : Int) (H149 : PH) (again147 : Int → PH → Prop) =>
  mIf (decide (s146 < 64))
  (mIdx y138 1 s146 fun a151 =>
  mLd (.int .u8) H149 a151 fun x153 =>
  mIdxA 8 a23 1 s132 fun a155 =>
  mLd Sl.v H149 a155 fun x157 =>
  mIdx x157 1 s146 fun a159 =>
  mLd (.int .u8) H149 a159 fun x161 =>
  mLoop (fun (s163 : Bool × Int) (H166 : PH) (again164 : (Bool × Int) → PH → Prop) =>
  mIdxA 8 a69 1 s132 fun a167 =>
  mLd Sl.v H166 a167 fun x169 =>
  mIf (decide (s163.2 < (x169.len : Int)))
  (mJoin (fun (s173 : Bool) (H175 : PH) =>
  again164 (s173, IntKind.wrap .i64 (s163.2 + 1)) H175)
  fun j174 =>
  mIf s163.1
  (j174 true H166)
  (mIdx y138 1 s146 fun a177 =>
  mLd (.int .u8) H166 a177 fun x179 =>
  mIdxA 8 a69 1 s132 fun a181 =>
  mLd Sl.v H166 a181 fun x183 =>
  mIdx x183 1 s163.2 fun a185 =>
  mLd Sl.v H166 a185 fun x187 =>
  mIdx x187 1 s146 fun a189 =>
  mLd (.int .u8) H166 a189 fun x191 =>
  j174 (x179 == x191) H166))
  (mIf (!s163.1)
  (DoneD H0 false H166)
  (again147 (IntKind.wrap .i64 (s146 + 1)) H166)))
  (x153 == x161, 0) H149)
  (again133 (IntKind.wrap .i64 (s132 + 1)) H149))
  0 H143))
  fun j142 =>
  mIf (y139 != 0)
  (j142 true H137)
  (j142 ((y138.len : Int) != 64) H137))
  (keelsonlaw3_awake H135 fun y195 H194 =>
  DoneD H0 y195 H194))
  0 H := by
  have hl8 : old.length = 8 := by rw [ro.1]; exact h8
  refine mLoop_count 8 (fun i st Hk => st = (i : Int) ∧ Ext H Hk) ⟨rfl, .refl H⟩ ?_
  rintro i st H1 again hi ⟨rfl, x1⟩ hag
  refine mIf_intro (fun c => ?_) (fun _ => awake_spec fun H2 x2 => ⟨rfl, xH.trans (x1.trans x2)⟩)
  have hi8 : i < 8 := by simp at c; omega
  have hcl : i < (crashTo m D.safe D.held D.held.length).1.length := by rw [crashTo_length, h8]; exact hi8
  obtain ⟨b, hb⟩ : ∃ b, (crashTo m D.safe D.held D.held.length).1[i]? = some b := ⟨_, List.getElem?_eq_getElem hcl⟩
  have hread : (D.crash m).read i = 0 := by
    show (if false = true then (3 : Int) else if D.faults.getD i false = true then 4 else 0) = 0
    rw [hf, List.getD, List.getElem?_replicate, if_pos hi8]; rfl
  refine read_ok (i := i) (d.ext x1) g.small (show (D.crash m).now[i]? = some b from hb) hread fun q H2 x2 o2 v2 => ?_
  have l2 : (q.len : Int) = 64 := by rw [v2.list.lenI, b.2]; rfl
  have e2 : ((q.len : Int) != 64) = false := by rw [l2]; rfl
  refine mJoin_intro (mIf_neg rfl ?_)
  rw [e2]
  refine mIf_neg rfl ?_
  obtain ⟨s, hs⟩ : ∃ s, old[i]? = some s := ⟨_, List.getElem?_eq_getElem (by omega)⟩
  obtain ⟨ob, hob, hsb⟩ := ro.get hs
  obtain ⟨x, hxx⟩ : ∃ x, xs[i]? = some x := ⟨_, List.getElem?_eq_getElem (by omega)⟩
  obtain ⟨lx, hx30, bl, rbl, hok⟩ := hx i x hxx
  refine mLoop_count 64 (fun p st Hk => st = (p : Int) ∧ Ext H2 Hk) ⟨rfl, .refl H2⟩ ?_
  rintro p st H3 again3 hp ⟨rfl, x3⟩ hag3
  have x03 : Ext H H3 := (x1.trans x2).trans x3
  refine mIf_intro (fun c3 => ?_) (fun _ => ?_)
  rotate_left
  · rw [wrap_succ (by omega)]; exact hag hi8 _ _ ⟨rfl, x03⟩
  have hp64 : p < 64 := by simp at c3; omega
  refine idx_ld (v2.ext x3).list (by omega) (by rw [b.2]; omega) fun y1 hy1 => idxA_slots (by omega) (by omega) ?_
  rw [Int.toNat_natCast] at hy1 ⊢
  refine ld_row (x := s) (r23.ext x03) (by simp [slots, hs]) (idx_ld (hsb.ext (x0.trans x03)) (by omega) (by rw [ob.2]; omega) fun y2 hy2 => ?_)
  rw [Int.toNat_natCast] at hy2
  refine mLoop_count bl.length (fun k st Hk => st.2 = (k : Int) ∧ Ext H3 Hk ∧ (st.1 = true ∨ ∃ (q' : Nat) (w : Blk), k ≤ q' ∧ bl[q']? = some w ∧ w.1[p]? = some y1)) ⟨rfl, .refl H3, ?_⟩ ?_
  · rcases crashTo_from m D.safe D.held i p hp64 D.held.length b hb with ⟨b0, h1, h2⟩ | ⟨j, w, h1, h2, h3, h4⟩
    · left
      rw [hob] at h1; cases h1
      rw [hy1, hy2] at h2; cases h2
      simp
    · right
      obtain ⟨q', hq'⟩ := List.getElem?_of_mem (hok j w h2 h3)
      exact ⟨q', _, Nat.zero_le _, hq', by rw [← h4, hy1]⟩
  rintro k ⟨fd, st2⟩ H4 again4 hk ⟨hst, x4, hfd⟩ hag4
  simp only at hst hfd
  subst hst
  have x04 := x03.trans x4
  have hxl : x.2.length = bl.length := rbl.1
  have r69' : (slots (xs.map (·.1)))[i]? = some (Sl.v x.1) := by simp [slots, hxx]
  refine idxA_slots (by omega) (by omega) ?_
  rw [Int.toNat_natCast]
  refine ld_row (x := x.1) (r69.ext x04) r69' (mIf_intro (fun c4 => ?_) (fun c4 => ?_))
  · have hkl : k < bl.length := by simp at c4; rw [lx.1] at c4; omega
    refine mJoin_intro (mIf_intro (fun c5 => ?_) (fun c5 => ?_))
    · rw [wrap_succ (by omega)]
      exact hag4 hkl _ _ ⟨rfl, x4, .inl rfl⟩
    · refine idx_ld (v2.ext (x3.trans x4)).list (by omega) (by rw [b.2]; omega) fun y3 hy3 => idxA_slots (by omega) (by omega) ?_
      rw [Int.toNat_natCast] at hy3 ⊢
      rw [hy1] at hy3; cases hy3
      refine ld_row (x := x.1) (r69.ext x04) r69' (idx_ld (lx.ext x04) (by omega) (by omega) fun sl hsl => ?_)
      rw [Int.toNat_natCast] at hsl
      obtain ⟨wb, hwb, hwv⟩ := rbl.get hsl
      refine idx_ld (hwv.ext (x0.trans x04)) (by omega) (by rw [wb.2]; omega) fun y4 hy4 => ?_
      rw [Int.toNat_natCast] at hy4
      rw [wrap_succ (by omega)]
      refine hag4 hkl _ _ ⟨rfl, x4, ?_⟩
      rcases hfd with hfd | ⟨q', w, h1, h2, h3⟩
      · exact absurd (hfd.symm.trans c5) (by simp)
      · by_cases e : q' = k
        · subst e
          rw [hwb] at h2; cases h2
          rw [hy4] at h3; cases h3
          left; simp
        · exact .inr ⟨q', w, by omega, h2, h3⟩
  · have hkl : k = bl.length := by simp at c4; rw [lx.1] at c4; omega
    have hft : fd = true := by
      rcases hfd with h | ⟨q', w, h1, h2, _⟩
      · exact h
      · have := (List.getElem?_eq_some_iff.1 h2).1; omega
    refine mIf_neg (by rw [hft]; rfl) ?_
    rw [wrap_succ (by omega)]
    exact hag3 hp64 _ _ ⟨rfl, x3.trans x4⟩
end Go.Proofs.Ytdoldlinaghfbaa

/- THE LAW DiskFaults, on formulas. -/
import Derived.Test.YtdoldlinaghfbaaDiskF
set_option linter.unusedVariables false
set_option linter.unusedSimpArgs false
namespace Go.Proofs.Ytdoldlinaghfbaa
open Go Go.Kx
def DoneD (H : PH) (r : Bool) (H' : PH) : Prop := r = true ∧ Ext H H'

theorem getD_set_self {l : List Bool} {j : Nat} {b : Bool} (h : j < l.length) : (l.set j b).getD j false = b := by simp [List.getD, h]
theorem getD_set_ne {l : List Bool} {i j : Nat} {b : Bool} (h : i ≠ j) : (l.set j b).getD i false = l.getD i false := by simp [List.getD, List.getElem?_set_ne (Ne.symm h)]

theorem faults_law {H : PH} {p0 p1 p2 : Int} : keelsonlaw3_DiskFaults p0 p1 p2 H (DoneD H) := by
  refine round_spec (by decide) (by decide) (round_spec (by decide) (by decide) ?_)
  obtain ⟨i, hi⟩ := Int.eq_ofNat_of_zero_le (Int.emod_nonneg p0 (show (6 : Int) ≠ 0 by decide))
  obtain ⟨j, hj⟩ := Int.eq_ofNat_of_zero_le (Int.emod_nonneg p1 (show (6 : Int) ≠ 0 by decide))
  have hi6 : i < 6 := by have := Int.emod_lt_of_pos p0 (show (0 : Int) < 6 by decide); omega
  have hj6 : j < 6 := by have := Int.emod_lt_of_pos p1 (show (0 : Int) < 6 by decide); omega
  rw [hi, hj]
  refine new_spec (n := 6) (by decide) (by decide) fun A H1 x1 d1 f1 => ?_
  refine mJoin_intro (mIf_neg rfl (mJoin_intro (mIf_neg rfl (fill_spec fun r2 H2 x2 o2 v2 => ?_))))
  have sm0 := small_fresh 6 (by decide)
  refine write_spec (i := i) (b := fillB p2) (d1.ext x2) sm0 (by simpa [fresh] using hi6) v2.list (apart_new d1 o2) fun A3 H3 d3 af3 => ?_
  have x03 : Ext H H3 := af3.ext0 (x1.trans x2) f1
  have f3 := af3.foot0 (x1.trans x2) f1
  have e3 := af3.same
  have hD1 : (fresh 6).write i (fillB p2) = ⟨List.replicate 6 zeroB, (List.replicate 6 zeroB).set i (fillB p2), [((i : Int), fillB p2)], List.replicate 6 false, -1, 1, false⟩ := rfl
  have sm1 : Small ((fresh 6).write i (fillB p2)) := sm0.write (by simpa [fresh] using hi6) (by decide) (by decide)
  rw [hD1] at d3 sm1
  rw [← e3]
  have hact0 : (fresh 6).act.2 = true := rfl
  rw [if_pos hact0]
  refine mJoin_intro (mIf_neg rfl (fault_spec (i := j) d3 sm1 (by simpa using hj6) fun H4 d4 af4 => ?_))
  have x04 : Ext H H4 := af4.ext0 x03 f3
  have sm2 := sm1.fault j true
  refine mIf_neg rfl ?_
  have hf1 : ((List.replicate 6 false).set j true).getD j false = true := getD_set_self (by simpa using hj6)
  have rdj : (Dk.fault ⟨List.replicate 6 zeroB, (List.replicate 6 zeroB).set i (fillB p2), [((i : Int), fillB p2)], List.replicate 6 false, -1, 1, false⟩ j true).read j = 4 := by
    simp only [Dk.read, Dk.fault, hf1, if_true, Bool.false_eq_true, if_false]
  refine read_spec (i := j) d4 sm2 (by simpa [Dk.fault] using hj6) (fun e => by rw [rdj] at e; cases e) (fun _ => ?_) (fun e => by rw [rdj] at e; cases e)
  -- the rest, behind what is read of the other
  have rest : ∀ H5, Ext H4 H5 → mJoin (fun (s41 : Bool) (H43 : PH) => mIf s41 (DoneD H false H43)
      (mNewS H43 (row [.int .i64 1] 3) 1 fun r46 H47 => vdisk_Disk_Crash (some A3.a) r46 H47 fun y50 H49 => mIf (Option.isNone y50) (DoneD H false H49)
        (vdisk_Disk_Read y50 j H49 fun y53 y54 H52 =>
        mJoin (fun (s56 : Bool) (H58 : PH) => mJoin (fun (s61 : Bool) (H63 : PH) => mIf s61 (DoneD H false H63)
          (vdisk_Disk_Read y50 j H63 fun y67 y68 H66 => mJoin (fun (s70 : Bool) (H72 : PH) => mJoin (fun (s75 : Bool) (H77 : PH) => DoneD H s75 H77) fun j76 => mIf s70 (keelsonlaw3_awake H72 fun y80 H79 => j76 y80 H79) (j76 false H72))
            fun j71 => mIf (y68 == 0) (keelsonalike_Fill (IntKind.wrap .i64 (p2 + 1)) H66 fun y82 H81 => keelsonalike_Bytes y67 y82 H81 fun y84 H83 => j71 y84 H83) (j71 false H66)))
          fun j62 => mIf s56 (j62 true H58) (vdisk_Disk_Fault y50 j false H58 fun y86 H85 => j62 (y86 != 0) H85))
        fun j57 => mIf (y54 != 4) (j57 true H52) (keelsonalike_Fill (IntKind.wrap .i64 (p2 + 1)) H52 fun y88 H87 => vdisk_Disk_Write y50 j y88 H87 fun y90 H89 => j57 (y90 != 0) H89))))
      fun j42 => j42 false H5 := by
    intro H5 x5
    refine mJoin_intro (mIf_neg rfl (new1 (enc := Value.int .i64) fun r6 H6 x6 l6 o6 => crash_spec (d4.ext (x5.trans x6)) sm2 (by simp [Dk.fault]) l6 fun A7 H7 x7 d7 f7 => mIf_neg rfl ?_))
    have x07 := (x04.trans (x5.trans x6)).trans x7
    have f7' : ∀ c, A7.foot c → H c = none := fun c hc => (x04.trans (x5.trans x6)).none (f7 c hc)
    have sm3 := sm2.crash [1]
    have hn7 : j < (Dk.crash (Dk.fault ⟨List.replicate 6 zeroB, (List.replicate 6 zeroB).set i (fillB p2), [((i : Int), fillB p2)], List.replicate 6 false, -1, 1, false⟩ j true) [1]).now.length := by
      show j < (crashTo [1] _ _ _).1.length
      rw [crashTo_length]; simpa [Dk.fault] using hj6
    generalize hC : Dk.crash (Dk.fault ⟨List.replicate 6 zeroB, (List.replicate 6 zeroB).set i (fillB p2), [((i : Int), fillB p2)], List.replicate 6 false, -1, 1, false⟩ j true) [1] = C at d7 sm3 hn7
    have hCf : C.faults = (List.replicate 6 false).set j true := by rw [← hC]; rfl
    have hCo : C.off = false := by rw [← hC]; rfl
    have hCu : C.fuse = -1 := by rw [← hC]; rfl
    have hCa : C.acts = 0 := by rw [← hC]; rfl
    have hCh : C.held = [] := by rw [← hC]; rfl
    have rd7 : C.read j = 4 := by rw [Dk.read, hCo, hCf, hf1]; rfl
    refine read_spec (i := j) d7 sm3 hn7 (fun e => by rw [rd7] at e; cases e) (fun _ => ?_) (fun e => by rw [rd7] at e; cases e)
    refine mJoin_intro (mIf_neg rfl (fill_spec fun r8 H8 x8 o8 v8 => ?_))
    generalize hF : fillB (IntKind.wrap .i64 (p2 + 1)) = F at v8
    refine write_spec (i := j) (b := F) (d7.ext x8) sm3 hn7 v8.list (apart_new d7 o8) fun A9 H9 d9 af9 => ?_
    have x09 : Ext H H9 := af9.ext0 (x07.trans x8) f7'
    have f9 := af9.foot0 (x07.trans x8) f7'
    have e9 := af9.same
    have hact : C.act = ({ C with acts := C.acts + 1, off := false, fuse := max (C.fuse - 1) (-1) }, true) := by rw [Dk.act, hCo, hCu]; rfl
    rw [hact, if_pos rfl, ← e9]
    have sm9 : Small (C.write j F) := sm3.write hn7 (by rw [hCh]; decide) (by rw [hCa]; decide)
    have hW : C.write j F = { C with acts := C.acts + 1, off := false, fuse := max (C.fuse - 1) (-1), held := C.held ++ [((j : Int), F)], now := C.now.set j F } := by rw [Dk.write, hact]; rfl
    rw [hW] at d9 sm9
    refine mJoin_intro (mIf_neg rfl (fault_spec (i := j) d9 sm9 (by simpa using hn7) fun H10 d10 af10 => mIf_neg rfl ?_))
    have x010 : Ext H H10 := af10.ext0 x09 f9
    have sm10 := sm9.fault j false
    refine read_ok (i := j) (b := F) d10 sm10 ?_ ?_ fun r11 H11 x11 o11 v11 => ?_
    · show (C.now.set j F)[j]? = some F
      rw [List.getElem?_set_self hn7]
    · show (if false = true then (3 : Int) else if ((C.faults.set j false).getD j false) = true then 4 else 0) = 0
      rw [getD_set_self (by rw [hCf]; simpa using hj6)]; rfl
    · refine mJoin_intro (mIf_pos rfl (fill_spec fun r12 H12 x12 o12 v12 => bytes_spec (v11.list.ext x12) v12.list (by rw [F.2]; decide) ?_))
      rw [hF, decide_eq_true rfl]
      exact mJoin_intro (mIf_pos rfl (awake_spec fun H13 x13 => ⟨rfl, ((x010.trans x11).trans x12).trans x13⟩))
  by_cases hij : i = j
  · subst hij
    refine read_spec (i := i) d4 sm2 (by simpa [Dk.fault] using hi6) (fun e => by rw [rdj] at e; cases e) (fun _ => ?_) (fun e => by rw [rdj] at e; cases e)
    refine mJoin_intro (mIf_neg rfl (mJoin_intro (mIf_neg rfl ?_)))
    rw [show (((4 : Int) == 0) != ((i : Int) != (i : Int))) = false by simp]
    refine mJoin_intro (mIf_neg rfl (mJoin_intro (mIf_neg rfl ?_)))
    exact rest H4 (.refl _)
  · have rdi : (Dk.fault ⟨List.replicate 6 zeroB, (List.replicate 6 zeroB).set i (fillB p2), [((i : Int), fillB p2)], List.replicate 6 false, -1, 1, false⟩ j true).read i = 0 := by
      have : ((List.replicate 6 false).set j true).getD i false = false := by
        rw [getD_set_ne hij]
        show ((List.replicate 6 false)[i]?).getD false = false
        rw [List.getElem?_replicate, if_pos hi6]; rfl
      simp only [Dk.read, Dk.fault, this, Bool.false_eq_true, if_false]
    refine read_ok (i := i) (b := fillB p2) d4 sm2 ?_ rdi fun r5 H5 x5 o5 v5 => ?_
    · show ((List.replicate 6 zeroB).set i (fillB p2))[i]? = some (fillB p2)
      rw [List.getElem?_set_self (by simpa using hi6)]
    · refine mJoin_intro (mIf_neg rfl (mJoin_intro (mIf_neg rfl ?_)))
      have hne : ((i : Int) != (j : Int)) = true := by simp; omega
      rw [show (((0 : Int) == 0) != ((i : Int) != (j : Int))) = false by rw [hne]; rfl]
      refine mJoin_intro (mIf_neg rfl (mJoin_intro (mIf_pos rfl (fill_spec fun r6 H6 x6 o6 v6 => bytes_spec (v5.list.ext x6) v6.list (by rw [(fillB p2).2]; decide) ?_))))
      rw [decide_eq_true rfl]
      exact rest H6 (x5.trans x6)
end Go.Proofs.Ytdoldlinaghfbaa

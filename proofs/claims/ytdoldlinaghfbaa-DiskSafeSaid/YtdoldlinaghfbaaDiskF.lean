/- awake (chapter 3). -/
import Derived.Test.YtdoldlinaghfbaaDiskE
set_option linter.unusedVariables false
set_option linter.unusedSimpArgs false
namespace Go.Proofs.Ytdoldlinaghfbaa
open Go Go.Kx

theorem crash_none {H : PH} {p : Sl} {Q : Option Addr → PH → Prop} (hQ : Q none H) : vdisk_Disk_Crash none p H Q := mIf_pos rfl hQ
theorem off_none {H : PH} {Q : Bool → PH → Prop} (hQ : Q true H) : vdisk_Disk_Off none H Q := mJoin_intro (mIf_pos rfl hQ)
theorem apart_new {H : PH} {A : DA} {D : Dk} {r : Sl} (h : DiskAt H A D) (o : Own0 H r) : ∀ c, r.has c → ¬ A.foot c := fun c hc hf => none_no (h.has_some hf) (o c hc)
def aw : Dk := (fresh 4).write 0 (fillB 1)
theorem aw_small : Small aw := (small_fresh 4 (by decide)).write (by decide) (by decide) (by decide)

theorem awake_spec {H : PH} {Q : Bool → PH → Prop} (hQ : ∀ H', Ext H H' → Q true H') : keelsonlaw3_awake H Q := by
  refine new_spec (n := 4) (by decide) (by decide) fun A H1 x1 d1 f1 => new_zero ?_
  refine mJoin_intro (mIf_neg rfl (mIf_neg rfl (fill_spec fun r1 H2 x2 o2 v2 => ?_)))
  have d2 := d1.ext x2
  refine write_spec (i := 0) (b := fillB 1) d2 (small_fresh 4 (by decide)) (by decide) v2.list (apart_new d1 o2) fun A3 H3 d3 af3 => ?_
  have x03 : Ext H H3 := af3.ext0 (x1.trans x2) f1
  have e3 := af3.same
  rw [← e3]
  refine new1 (enc := Value.int .i64) fun r4 H4 x4 l4 o4 => crash_spec (d3.ext x4) aw_small (by decide) l4 fun A5 H5 x5 d5 f5 => ?_
  have x35 := x4.trans x5
  refine crash_spec (d3.ext x35) aw_small (by decide) (ListAt.nil) fun A6 H6 x6 d6 f6 => ?_
  have x36 := x35.trans x6
  refine new1 (enc := Value.int .i64) fun r7 H7 x7 l7 o7 => crash_spec (d3.ext (x36.trans x7)) aw_small (by decide) l7 fun A8 H8 x8 d8 f8 => ?_
  have x38 := (x36.trans x7).trans x8
  refine mJoin_intro (mIf_neg rfl (mJoin_intro (mIf_neg rfl (mIf_neg rfl ?_))))
  have s5 := aw_small.crash [1]
  have s6 := aw_small.crash []
  have s8 := aw_small.crash [5]
  refine read_ok (i := 0) (b := fillB 1) (d5.ext ((x6.trans x7).trans x8)) s5 (by kernel_rfl) (by kernel_rfl) fun y1 H9 x9 _ w1 => ?_
  refine read_ok (i := 0) (b := zeroB) (d6.ext ((x7.trans x8).trans x9)) s6 (by kernel_rfl) (by kernel_rfl) fun y2 H10 x10 _ w2 => ?_
  refine read_ok (i := 0) (b := tear zeroB (fillB 1) 1) (d8.ext (x9.trans x10)) s8 (by kernel_rfl) (by kernel_rfl) fun y3 H11 x11 _ w3 => ?_
  have n1 : ((y1.len : Int) != 64) = false := by rw [w1.list.lenI, (fillB 1).2]; rfl
  have n2 : ((y2.len : Int) != 64) = false := by rw [w2.list.lenI, zeroB.2]; rfl
  have n3 : ((y3.len : Int) != 64) = false := by rw [w3.list.lenI, (tear zeroB (fillB 1) 1).2]; rfl
  refine mJoin_intro (mIf_neg n1 ?_)
  rw [n2]
  refine mJoin_intro (mIf_neg rfl ?_)
  rw [n3]
  refine mIf_neg rfl ?_
  refine mJoin_intro (mIf_pos rfl (mJoin_intro (mIf_pos rfl (mJoin_intro (mIf_pos rfl ?_)))))
  refine fill_spec fun r12 H12 x12 o12 v12 => bytes_spec (w1.list.ext ((x10.trans x11).trans x12)) v12.list (by rw [(fillB 1).2]; decide) ?_
  rw [decide_eq_true rfl]
  have w2' := w2.ext (x11.trans x12)
  have w3' := w3.ext x12
  have x312 := (((x38.trans x9).trans x10).trans x11).trans x12
  refine mJoin_intro (mIf_pos rfl (idx_ld w2'.list (by decide) (by rw [zeroB.2]; decide) fun z hz => ?_))
  have e1 : zeroB.1[(0 : Int).toNat]? = some 0 := by kernel_rfl
  rw [e1] at hz; cases hz
  refine mJoin_intro (mIf_pos rfl (idx_ld w3'.list (by decide) (by rw [(tear zeroB (fillB 1) 1).2]; decide) fun z hz => ?_))
  have e2 : (tear zeroB (fillB 1) 1).1[(0 : Int).toNat]? = some 1 := by kernel_rfl
  rw [e2] at hz; cases hz
  refine mJoin_intro (mIf_pos rfl (idx_ld w3'.list (by decide) (by rw [(tear zeroB (fillB 1) 1).2]; decide) fun z hz => ?_))
  have e4 : (tear zeroB (fillB 1) 1).1[(1 : Int).toNat]? = some 0 := by kernel_rfl
  rw [e4] at hz; cases hz
  refine mJoin_intro (mIf_pos rfl (held_spec (d3.ext x312) (mJoin_intro (mIf_pos rfl (off_none (mJoin_intro (mIf_pos rfl (crash_none ?_))))))))
  exact hQ H12 (x03.trans x312)
end Go.Proofs.Ytdoldlinaghfbaa

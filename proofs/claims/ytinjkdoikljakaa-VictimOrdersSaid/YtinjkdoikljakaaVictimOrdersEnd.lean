/- VictimOrders answers true, and leaves its arguments as they were, whatever it is given. -/
import Derived.Test.YtinjkdoikljakaaVicF
import Derived.Test.YtinjkdoikljakaaKxIn
import Derived.Test.YtinjkdoikljakaaRows
set_option linter.unusedVariables false
set_option linter.unusedSimpArgs false
namespace Go.Proofs.Ytinjkdoikljakaa.lawVictimOrders
open Go Go.Kx
open Go.ChangeShapes Go.WideShapes Go.ChangeAt Go.RowKit

theorem own : ownKnob Try.prog.godebug = none := by kernel_rfl
theorem laid : laidOutB Try.prog = true := by kernel_rfl
theorem rd : Try.f5.params.toList.all (fun t => Try.prog.readableRec t && decide (t < Try.prog.types.size)) = true := by kernel_rfl
theorem agg27 : isAggT Try.prog 27 = true := by kernel_rfl
theorem tys27 : Try.prog.cellTypes Try.prog.depth 27 = some [3, 3, 3] := by kernel_rfl
theorem n27 : Try.prog.cellsOf 27 = 3 := by kernel_rfl

theorem contract (H : Type) (enc : TypeId × Value → H) (W : World) (base : Nat) (args : Array Value) (ds gs : List (DataW H)) (before : List MemPlace)
    (hval : ∀ (j : Nat) t v, Try.f5.params[j]? = some t → args[j]? = some v → Value.okWide Try.prog W .any base t v)
    (hW : DataW.Whole enc Try.prog Try.f5.params.toList Rows.victimOrdersSpec.vars false W args.toList ds gs before) :
    Calls Try.prog 5 args W fun e W' => ∃ v, e = .returned v ∧ Rows.victimOrdersSpec.post enc Try.prog Try.f5 false true false false W args v W' := by
  have hW' := hW
  obtain ⟨p, q, hA, hV, rfl, hfz, hnd⟩ := hW
  rw [Try.params5] at hA hval
  obtain ⟨v0, vs0, d0, ds0, p0, q0, hargs, rfl, rfl, h0, r0⟩ := trodAll_cons hA
  obtain ⟨v1, vs1, d1, ds1, p1, q1, rfl, rfl, rfl, h1, r1⟩ := trodAll_cons r0
  obtain ⟨v2, vs2, d2, ds2, p2, q2, rfl, rfl, rfl, h2, r2⟩ := trodAll_cons r1
  obtain ⟨rfl, rfl, rfl⟩ := trodAll_nil r2
  obtain rfl : args = #[v0, v1, v2] := by cases args; simp_all
  obtain ⟨rfl, rfl⟩ := trodVars_none hV
  obtain ⟨cs0, rfl, hl0, hc0⟩ := row_of agg27 tys27 n27 (hval 0 27 v0 rfl rfl)
  obtain ⟨c0_0, q0_0, o0_0⟩ := hc0 0 3 rfl
  obtain ⟨x0_0, rfl, w0_0⟩ := cell_int Try.underlying3 o0_0
  obtain ⟨c0_1, q0_1, o0_1⟩ := hc0 1 3 rfl
  obtain ⟨x0_1, rfl, w0_1⟩ := cell_int Try.underlying3 o0_1
  obtain ⟨c0_2, q0_2, o0_2⟩ := hc0 2 3 rfl
  obtain ⟨x0_2, rfl, w0_2⟩ := cell_int Try.underlying3 o0_2
  obtain rfl := list3 hl0 q0_0 q0_1 q0_2
  obtain ⟨cs1, rfl, hl1, hc1⟩ := row_of agg27 tys27 n27 (hval 1 27 v1 rfl rfl)
  obtain ⟨c1_0, q1_0, o1_0⟩ := hc1 0 3 rfl
  obtain ⟨x1_0, rfl, w1_0⟩ := cell_int Try.underlying3 o1_0
  obtain ⟨c1_1, q1_1, o1_1⟩ := hc1 1 3 rfl
  obtain ⟨x1_1, rfl, w1_1⟩ := cell_int Try.underlying3 o1_1
  obtain ⟨c1_2, q1_2, o1_2⟩ := hc1 2 3 rfl
  obtain ⟨x1_2, rfl, w1_2⟩ := cell_int Try.underlying3 o1_2
  obtain rfl := list3 hl1 q1_0 q1_1 q1_2
  obtain ⟨cs2, rfl, hl2, hc2⟩ := row_of agg27 tys27 n27 (hval 2 27 v2 rfl rfl)
  obtain ⟨c2_0, q2_0, o2_0⟩ := hc2 0 3 rfl
  obtain ⟨x2_0, rfl, w2_0⟩ := cell_int Try.underlying3 o2_0
  obtain ⟨c2_1, q2_1, o2_1⟩ := hc2 1 3 rfl
  obtain ⟨x2_1, rfl, w2_1⟩ := cell_int Try.underlying3 o2_1
  obtain ⟨c2_2, q2_2, o2_2⟩ := hc2 2 3 rfl
  obtain ⟨x2_2, rfl, w2_2⟩ := cell_int Try.underlying3 o2_2
  obtain rfl := list3 hl2 q2_0 q2_1 q2_2
  refine (calls_done (keelsonlaw19_VictimOrders_s (x0_0, x0_1, x0_2) (x1_0, x1_1, x1_2) (x2_0, x2_1, x2_2) (heapOf W) _ (orders_law))).mono fun e W' ⟨he, hg⟩ => ?_
  exact ⟨_, he, post_law laid rd rfl Try.underlying4 rfl ⟨rfl, rfl, rfl⟩ hW' hg⟩

set_option maxRecDepth 100000 in
theorem lifted (os : Os) (started : os.Started) (H : Type) (enc : TypeId × Value → H) :
    ReturnsInHanded {} Try.checked os 5 .any (Rows.victimOrdersSpec.pre6 enc Try.prog Try.f5 Rows.victimOrdersRow.domain false) (Rows.victimOrdersSpec.post enc Try.prog Try.f5 false true false false) := by
  refine returnsInHanded_of_change (C := Try.checked) own started (by kernel_rfl) Try.func5
    (ChangeSpec.witness6 (enc := enc) (C := Try.checked) false ⟨#[], #[.agg #[.int .i64 0, .int .i64 0, .int .i64 0], .agg #[.int .i64 0, .int .i64 0, .int .i64 0], .agg #[.int .i64 0, .int .i64 0, .int .i64 0]], []⟩ 8 (by kernel_rfl) (by kernel_rfl) (by kernel_rfl) (by kernel_rfl)) ?_
  intro W base args ds gs before hval hW _ _
  exact contract H enc W base args ds gs before hval hW

theorem over : Rows.victimOrdersRow.holds Try.pinned (OpenSpec.ofChange Rows.victimOrdersSpec) :=
  OpenClaim.holds_of_wide 5 Try.f5 rfl rfl rfl rfl rfl rfl rfl ⟨rfl, rfl, rfl, rfl, rfl⟩ rfl rfl rfl rfl rfl (by kernel_rfl) Try.func5 (by kernel_rfl)
    (of_decide_eq_true (by kernel_rfl)) (by unfold Func.isWrapper; first | (rw [if_pos (by decide +kernel)]; kernel_rfl) | (rw [if_neg (by decide +kernel)]; exact ⟨rfl, rfl⟩))
    (fun os started H enc _ => lifted os started H enc)

theorem proved : Rows.VictimOrdersSaid := over
#print axioms proved
end Go.Proofs.Ytinjkdoikljakaa.lawVictimOrders

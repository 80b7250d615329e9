/- VictimBest answers true, and leaves its arguments as they were, whatever it is given. -/
import Derived.Test.YtinjkdoikljakaaVicX
import Derived.Test.YtinjkdoikljakaaKxIn
import Derived.Test.YtinjkdoikljakaaRows
set_option linter.unusedVariables false
set_option linter.unusedSimpArgs false
namespace Go.Proofs.Ytinjkdoikljakaa.lawVictimBest
open Go Go.Kx
open Go.ChangeShapes Go.WideShapes Go.ChangeAt Go.RowKit

theorem own : ownKnob Try.prog.godebug = none := by kernel_rfl
theorem laid : laidOutB Try.prog = true := by kernel_rfl
theorem rd : Try.f7.params.toList.all (fun t => Try.prog.readableRec t && decide (t < Try.prog.types.size)) = true := by kernel_rfl
theorem agg27 : isAggT Try.prog 27 = true := by kernel_rfl
theorem tys27 : Try.prog.cellTypes Try.prog.depth 27 = some [3, 3, 3] := by kernel_rfl
theorem n27 : Try.prog.cellsOf 27 = 3 := by kernel_rfl
theorem c3 : Try.prog.cellsOf 3 = 1 := by kernel_rfl

theorem contract (H : Type) (enc : TypeId × Value → H) (W : World) (base : Nat) (args : Array Value) (ds gs : List (DataW H)) (before : List MemPlace)
    (hval : ∀ (j : Nat) t v, Try.f7.params[j]? = some t → args[j]? = some v → Value.okWide Try.prog W .any base t v)
    (hW : DataW.Whole enc Try.prog Try.f7.params.toList Rows.victimBestSpec.vars false W args.toList ds gs before) :
    Calls Try.prog 7 args W fun e W' => ∃ v, e = .returned v ∧ Rows.victimBestSpec.post enc Try.prog Try.f7 false true false false W args v W' := by
  have hW' := hW
  obtain ⟨p, q, hA, hV, rfl, hfz, hnd⟩ := hW
  rw [Try.params7] at hA hval
  obtain ⟨v0, vs0, d0, ds0, p0, q0, hargs, rfl, rfl, h0, r0⟩ := trodAll_cons hA
  obtain ⟨v1, vs1, d1, ds1, p1, q1, rfl, rfl, rfl, h1, r1⟩ := trodAll_cons r0
  obtain ⟨v2, vs2, d2, ds2, p2, q2, rfl, rfl, rfl, h2, r2⟩ := trodAll_cons r1
  obtain ⟨v3, vs3, d3, ds3, p3, q3, rfl, rfl, rfl, h3, r3⟩ := trodAll_cons r2
  obtain ⟨v4, vs4, d4, ds4, p4, q4, rfl, rfl, rfl, h4, r4⟩ := trodAll_cons r3
  obtain ⟨rfl, rfl, rfl⟩ := trodAll_nil r4
  obtain rfl : args = #[v0, v1, v2, v3, v4] := by cases args; simp_all
  obtain ⟨rfl, rfl⟩ := trodVars_none hV
  obtain ⟨cs0, rfl, hl0, hc0⟩ := row_of agg27 tys27 n27 (hval 0 27 v0 rfl rfl)
  obtain ⟨c0_0, q0_0, o0_0⟩ := hc0 0 3 rfl
  obtain ⟨x0_0, rfl, w0_0⟩ := cell_int Try.underlying3 o0_0
  obtain ⟨c0_1, q0_1, o0_1⟩ := hc0 1 3 rfl
  obtain ⟨x0_1, rfl, w0_1⟩ := cell_int Try.underlying3 o0_1
  obtain ⟨c0_2, q0_2, o0_2⟩ := hc0 2 3 rfl
  obtain ⟨x0_2, rfl, w0_2⟩ := cell_int Try.underlying3 o0_2
  obtain rfl := list3 hl0 q0_0 q0_1 q0_2
  obtain ⟨n1, g1⟩ := trod_of_slice Try.underlying30 (hval 1 30 v1 rfl rfl) h1
  obtain ⟨s1, l1, e1, i1⟩ := in_ints Try.underlying30 c3 Try.underlying3 g1
  obtain rfl : v1 = Sl.v s1 := by simpa using e1
  obtain ⟨n2, g2⟩ := trod_of_slice Try.underlying30 (hval 2 30 v2 rfl rfl) h2
  obtain ⟨s2, l2, e2, i2⟩ := in_ints Try.underlying30 c3 Try.underlying3 g2
  obtain rfl : v2 = Sl.v s2 := by simpa using e2
  obtain ⟨x3, rfl, rfl, rfl, w3⟩ := open_int Try.underlying3 (hval 3 3 v3 rfl rfl) h3
  obtain ⟨x4, rfl, rfl, rfl, w4⟩ := open_int Try.underlying3 (hval 4 3 v4 rfl rfl) h4
  refine (calls_done (keelsonlaw19_VictimBest_s (x0_0, x0_1, x0_2) s1 s2 x3 x4 (heapOf W) _ (best_law i1.1 i2.1))).mono fun e W' ⟨he, hg⟩ => ?_
  exact ⟨_, he, post_law laid rd rfl Try.underlying4 rfl ⟨rfl, rfl, rfl⟩ hW' hg⟩

set_option maxRecDepth 100000 in
theorem lifted (os : Os) (started : os.Started) (H : Type) (enc : TypeId × Value → H) :
    ReturnsInHanded {} Try.checked os 7 .any (Rows.victimBestSpec.pre6 enc Try.prog Try.f7 Rows.victimBestRow.domain false) (Rows.victimBestSpec.post enc Try.prog Try.f7 false true false false) := by
  refine returnsInHanded_of_change (C := Try.checked) own started (by kernel_rfl) Try.func7
    (ChangeSpec.witness6 (enc := enc) (C := Try.checked) false ⟨#[], #[.agg #[.int .i64 0, .int .i64 0, .int .i64 0], .slice none 0 0, .slice none 0 0, .int .i64 0, .int .i64 0], []⟩ 8 (by kernel_rfl) (by kernel_rfl) (by kernel_rfl) (by kernel_rfl)) ?_
  intro W base args ds gs before hval hW _ _
  exact contract H enc W base args ds gs before hval hW

theorem over : Rows.victimBestRow.holds Try.pinned (OpenSpec.ofChange Rows.victimBestSpec) :=
  OpenClaim.holds_of_wide 7 Try.f7 rfl rfl rfl rfl rfl rfl rfl ⟨rfl, rfl, rfl, rfl, rfl⟩ rfl rfl rfl rfl rfl (by kernel_rfl) Try.func7 (by kernel_rfl)
    (of_decide_eq_true (by kernel_rfl)) (by unfold Func.isWrapper; first | (rw [if_pos (by decide +kernel)]; kernel_rfl) | (rw [if_neg (by decide +kernel)]; exact ⟨rfl, rfl⟩))
    (fun os started H enc _ => lifted os started H enc)

theorem proved : Rows.VictimBestSaid := over
#print axioms proved
end Go.Proofs.Ytinjkdoikljakaa.lawVictimBest

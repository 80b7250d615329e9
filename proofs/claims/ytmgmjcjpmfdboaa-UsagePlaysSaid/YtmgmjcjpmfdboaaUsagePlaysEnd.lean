/- UsagePlays answers true, and leaves its arguments as they were, whatever it is given. -/
import Derived.Test.YtmgmjcjpmfdboaaUsgU
import Derived.Test.YtmgmjcjpmfdboaaKxIn
import Derived.Test.YtmgmjcjpmfdboaaRows
set_option linter.unusedVariables false
set_option linter.unusedSimpArgs false
namespace Go.Proofs.Ytmgmjcjpmfdboaa.lawUsagePlays
open Go Go.Kx
open Go.ChangeShapes Go.WideShapes Go.ChangeAt Go.RowKit

theorem own : ownKnob Try.prog.godebug = none := by kernel_rfl
theorem laid : laidOutB Try.prog = true := by kernel_rfl
theorem rd : Try.f6.params.toList.all (fun t => Try.prog.readableRec t && decide (t < Try.prog.types.size)) = true := by kernel_rfl
theorem agg22 : isAggT Try.prog 22 = true := by kernel_rfl
theorem tys22 : Try.prog.cellTypes Try.prog.depth 22 = some [3, 3, 3] := by kernel_rfl
theorem n22 : Try.prog.cellsOf 22 = 3 := by kernel_rfl
theorem c52 : Try.prog.cellsOf 52 = 2 := by kernel_rfl
theorem c3 : Try.prog.cellsOf 3 = 1 := by kernel_rfl
theorem c62 : Try.prog.cellsOf 62 = 3 := by kernel_rfl
theorem el1 {H : Type} {enc : TypeId × Value → H} {W : World} : ∀ (n : Nat) (cs : List Value) (x : DataW H × List MemPlace), DataW.trod enc Try.prog W 0 (fun _ => true) true n 52 cs = some x → ∃ x, cs = encU x ∧ ((Lit.int .i64 x.1).wf = true ∧ (Lit.int .i64 x.2).wf = true) := by
  intro n cs x h
  obtain ⟨hl, hf⟩ := trod_field Try.underlying52 h
  obtain ⟨n0, y0, h0⟩ := hf 0 _ rfl
  obtain ⟨a0, g0, w0⟩ := f_int Try.underlying3 c3 h0
  obtain ⟨n1, y1, h1⟩ := hf 1 _ rfl
  obtain ⟨a1, g1, w1⟩ := f_int Try.underlying3 c3 h1
  exact ⟨(a0, a1), list2 (hl.trans c52) g0 g1, ⟨w0, w1⟩⟩
theorem el2 {H : Type} {enc : TypeId × Value → H} {W : World} : ∀ (n : Nat) (cs : List Value) (x : DataW H × List MemPlace), DataW.trod enc Try.prog W 0 (fun _ => true) true n 62 cs = some x → ∃ x, cs = enc3 x ∧ ((Lit.int .i64 x.1).wf = true ∧ (Lit.int .i64 x.2.1).wf = true ∧ (Lit.int .i64 x.2.2).wf = true) := by
  intro n cs x h
  obtain ⟨hl, hf⟩ := trod_field Try.underlying62 h
  obtain ⟨n0, y0, h0⟩ := hf 0 _ rfl
  obtain ⟨a0, g0, w0⟩ := f_int Try.underlying3 c3 h0
  obtain ⟨n1, y1, h1⟩ := hf 1 _ rfl
  obtain ⟨a1, g1, w1⟩ := f_int Try.underlying3 c3 h1
  obtain ⟨n2, y2, h2⟩ := hf 2 _ rfl
  obtain ⟨a2, g2, w2⟩ := f_int Try.underlying3 c3 h2
  exact ⟨(a0, a1, a2), list3 (hl.trans c62) g0 g1 g2, ⟨w0, w1, w2⟩⟩

theorem contract (H : Type) (enc : TypeId × Value → H) (W : World) (base : Nat) (args : Array Value) (ds gs : List (DataW H)) (before : List MemPlace)
    (hval : ∀ (j : Nat) t v, Try.f6.params[j]? = some t → args[j]? = some v → Value.okWide Try.prog W .any base t v)
    (hW : DataW.Whole enc Try.prog Try.f6.params.toList Rows.usagePlaysSpec.vars false W args.toList ds gs before) :
    Calls Try.prog 6 args W fun e W' => ∃ v, e = .returned v ∧ Rows.usagePlaysSpec.post enc Try.prog Try.f6 false true false false W args v W' := by
  have hW' := hW
  obtain ⟨p, q, hA, hV, rfl, hfz, hnd⟩ := hW
  rw [Try.params6] at hA hval
  obtain ⟨v0, vs0, d0, ds0, p0, q0, hargs, rfl, rfl, h0, r0⟩ := trodAll_cons hA
  obtain ⟨v1, vs1, d1, ds1, p1, q1, rfl, rfl, rfl, h1, r1⟩ := trodAll_cons r0
  obtain ⟨v2, vs2, d2, ds2, p2, q2, rfl, rfl, rfl, h2, r2⟩ := trodAll_cons r1
  obtain ⟨rfl, rfl, rfl⟩ := trodAll_nil r2
  obtain rfl : args = #[v0, v1, v2] := by cases args; simp_all
  obtain ⟨rfl, rfl⟩ := trodVars_none hV
  obtain ⟨cs0, rfl, hl0, hc0⟩ := row_of agg22 tys22 n22 (hval 0 22 v0 rfl rfl)
  obtain ⟨c0_0, q0_0, o0_0⟩ := hc0 0 3 rfl
  obtain ⟨x0_0, rfl, w0_0⟩ := cell_int Try.underlying3 o0_0
  obtain ⟨c0_1, q0_1, o0_1⟩ := hc0 1 3 rfl
  obtain ⟨x0_1, rfl, w0_1⟩ := cell_int Try.underlying3 o0_1
  obtain ⟨c0_2, q0_2, o0_2⟩ := hc0 2 3 rfl
  obtain ⟨x0_2, rfl, w0_2⟩ := cell_int Try.underlying3 o0_2
  obtain rfl := list3 hl0 q0_0 q0_1 q0_2
  obtain ⟨n1, g1⟩ := trod_of_slice Try.underlying50 (hval 1 50 v1 rfl rfl) h1
  obtain ⟨s1, l1, e1, L1, R1⟩ := in_sliceN Try.underlying50 c52 (by decide) el1 g1
  obtain rfl : v1 = Sl.v s1 := by simpa using e1
  obtain ⟨n2, g2⟩ := trod_of_slice Try.underlying57 (hval 2 57 v2 rfl rfl) h2
  obtain ⟨s2, l2, e2, L2, R2⟩ := in_sliceN Try.underlying57 c62 (by decide) el2 g2
  obtain rfl : v2 = Sl.v s2 := by simpa using e2
  refine (calls_done (keelsonlaw12_UsagePlays_s (x0_0, x0_1, x0_2) s1 s2 (heapOf W) _ (plays_law L1 L2 fun x hx => ⟨by have := (wf_i64 (R2 x hx).2.1).2; omega, (wf_i64 (R2 x hx).2.2).1⟩))).mono fun e W' ⟨he, hg⟩ => ?_
  exact ⟨_, he, post_law laid rd rfl Try.underlying4 rfl ⟨rfl, rfl, rfl⟩ hW' hg⟩

set_option maxRecDepth 100000 in
theorem lifted (os : Os) (started : os.Started) (H : Type) (enc : TypeId × Value → H) :
    ReturnsInHanded {} Try.checked os 6 .any (Rows.usagePlaysSpec.pre6 enc Try.prog Try.f6 Rows.usagePlaysRow.domain false) (Rows.usagePlaysSpec.post enc Try.prog Try.f6 false true false false) := by
  refine returnsInHanded_of_change (C := Try.checked) own started (by kernel_rfl) Try.func6
    (ChangeSpec.witness6 (enc := enc) (C := Try.checked) false ⟨#[], #[.agg #[.int .i64 0, .int .i64 0, .int .i64 0], .slice none 0 0, .slice none 0 0], []⟩ 8 (by kernel_rfl) (by kernel_rfl) (by kernel_rfl) (by kernel_rfl)) ?_
  intro W base args ds gs before hval hW _ _
  exact contract H enc W base args ds gs before hval hW

theorem over : Rows.usagePlaysRow.holds Try.pinned (OpenSpec.ofChange Rows.usagePlaysSpec) :=
  OpenClaim.holds_of_wide 6 Try.f6 rfl rfl rfl rfl rfl rfl rfl ⟨rfl, rfl, rfl, rfl, rfl⟩ rfl rfl rfl rfl rfl (by kernel_rfl) Try.func6 (by kernel_rfl)
    (of_decide_eq_true (by kernel_rfl)) (by unfold Func.isWrapper; first | (rw [if_pos (by decide +kernel)]; kernel_rfl) | (rw [if_neg (by decide +kernel)]; exact ⟨rfl, rfl⟩))
    (fun os started H enc _ => lifted os started H enc)

theorem proved : Rows.UsagePlaysSaid := over
#print axioms proved
end Go.Proofs.Ytmgmjcjpmfdboaa.lawUsagePlays

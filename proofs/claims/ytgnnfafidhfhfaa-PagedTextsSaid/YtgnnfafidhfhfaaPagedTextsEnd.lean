/- PagedTexts answers true, and leaves its arguments as they were, whatever it is given. -/
import Derived.Test.YtgnnfafidhfhfaaPagF
import Derived.Test.YtgnnfafidhfhfaaKxIn
import Derived.Test.YtgnnfafidhfhfaaRows
set_option linter.unusedVariables false
set_option linter.unusedSimpArgs false
namespace Go.Proofs.Ytgnnfafidhfhfaa.lawPagedTexts
open Go Go.Kx
open Go.ChangeShapes Go.WideShapes Go.ChangeAt Go.RowKit

theorem own : ownKnob Try.prog.godebug = none := by kernel_rfl
theorem laid : laidOutB Try.prog = true := by kernel_rfl
theorem rd : Try.f4.params.toList.all (fun t => Try.prog.readableRec t && decide (t < Try.prog.types.size)) = true := by kernel_rfl
theorem c28 : Try.prog.cellsOf 28 = 2 := by kernel_rfl
theorem c3 : Try.prog.cellsOf 3 = 1 := by kernel_rfl
theorem el2 {H : Type} {enc : TypeId × Value → H} {W : World} : ∀ (n : Nat) (cs : List Value) (x : DataW H × List MemPlace), DataW.trod enc Try.prog W 0 (fun _ => true) true n 28 cs = some x → ∃ x, cs = enc2 x ∧ ((Lit.int .i64 x.1).wf = true ∧ (Lit.int .i64 x.2).wf = true) := by
  intro n cs x h
  obtain ⟨hl, hf⟩ := trod_item Try.underlying28 h
  obtain ⟨n0, y0, h0⟩ := hf 0 (by decide)
  obtain ⟨a0, g0, w0⟩ := f_int Try.underlying3 c3 h0
  rw [c3, Nat.mul_one] at g0
  obtain ⟨n1, y1, h1⟩ := hf 1 (by decide)
  obtain ⟨a1, g1, w1⟩ := f_int Try.underlying3 c3 h1
  rw [c3, Nat.mul_one] at g1
  exact ⟨(a0, a1), list2 (hl.trans c28) g0 g1, ⟨w0, w1⟩⟩

theorem contract (H : Type) (enc : TypeId × Value → H) (W : World) (base : Nat) (args : Array Value) (ds gs : List (DataW H)) (before : List MemPlace)
    (hval : ∀ (j : Nat) t v, Try.f4.params[j]? = some t → args[j]? = some v → Value.okWide Try.prog W .any base t v)
    (hW : DataW.Whole enc Try.prog Try.f4.params.toList Rows.pagedTextsSpec.vars false W args.toList ds gs before) :
    Calls Try.prog 4 args W fun e W' => ∃ v, e = .returned v ∧ Rows.pagedTextsSpec.post enc Try.prog Try.f4 false true false false W args v W' := by
  have hW' := hW
  obtain ⟨p, q, hA, hV, rfl, hfz, hnd⟩ := hW
  rw [Try.params4] at hA hval
  obtain ⟨v0, vs0, d0, ds0, p0, q0, hargs, rfl, rfl, h0, r0⟩ := trodAll_cons hA
  obtain ⟨v1, vs1, d1, ds1, p1, q1, rfl, rfl, rfl, h1, r1⟩ := trodAll_cons r0
  obtain ⟨v2, vs2, d2, ds2, p2, q2, rfl, rfl, rfl, h2, r2⟩ := trodAll_cons r1
  obtain ⟨rfl, rfl, rfl⟩ := trodAll_nil r2
  obtain rfl : args = #[v0, v1, v2] := by cases args; simp_all
  obtain ⟨rfl, rfl⟩ := trodVars_none hV
  obtain ⟨x0, rfl, rfl, rfl, w0⟩ := open_int Try.underlying3 (hval 0 3 v0 rfl rfl) h0
  obtain ⟨x1, rfl, rfl, rfl, w1⟩ := open_int Try.underlying3 (hval 1 3 v1 rfl rfl) h1
  obtain ⟨n2, g2⟩ := trod_of_slice Try.underlying22 (hval 2 22 v2 rfl rfl) h2
  obtain ⟨s2, l2, e2, L2, R2⟩ := in_sliceN Try.underlying22 c28 (by decide) el2 g2
  obtain rfl : v2 = Sl.v s2 := by simpa using e2
  refine (calls_done (keelsonlaw11_PagedTexts_s x0 x1 s2 (heapOf W) _ (texts_law L2))).mono fun e W' ⟨he, hg⟩ => ?_
  exact ⟨_, he, post_law laid rd rfl Try.underlying4 rfl ⟨rfl, rfl, rfl⟩ hW' hg⟩

set_option maxRecDepth 100000 in
theorem lifted (os : Os) (started : os.Started) (H : Type) (enc : TypeId × Value → H) :
    ReturnsInHanded {} Try.checked os 4 .any (Rows.pagedTextsSpec.pre6 enc Try.prog Try.f4 Rows.pagedTextsRow.domain false) (Rows.pagedTextsSpec.post enc Try.prog Try.f4 false true false false) := by
  refine returnsInHanded_of_change (C := Try.checked) own started (by kernel_rfl) Try.func4
    (ChangeSpec.witness6 (enc := enc) (C := Try.checked) false ⟨#[], #[.int .i64 0, .int .i64 0, .slice none 0 0], []⟩ 8 (by kernel_rfl) (by kernel_rfl) (by kernel_rfl) (by kernel_rfl)) ?_
  intro W base args ds gs before hval hW _ _
  exact contract H enc W base args ds gs before hval hW

theorem over : Rows.pagedTextsRow.holds Try.pinned (OpenSpec.ofChange Rows.pagedTextsSpec) :=
  OpenClaim.holds_of_wide 4 Try.f4 rfl rfl rfl rfl rfl rfl rfl ⟨rfl, rfl, rfl, rfl, rfl⟩ rfl rfl rfl rfl rfl (by kernel_rfl) Try.func4 (by kernel_rfl)
    (of_decide_eq_true (by kernel_rfl)) (by unfold Func.isWrapper; first | (rw [if_pos (by decide +kernel)]; kernel_rfl) | (rw [if_neg (by decide +kernel)]; exact ⟨rfl, rfl⟩))
    (fun os started H enc _ => lifted os started H enc)

theorem proved : Rows.PagedTextsSaid := over
#print axioms proved
end Go.Proofs.Ytgnnfafidhfhfaa.lawPagedTexts

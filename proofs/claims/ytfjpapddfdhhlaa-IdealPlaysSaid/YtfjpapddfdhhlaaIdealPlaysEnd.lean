/- IdealPlays answers true, and leaves its arguments as they were, whatever it is given. -/
import Derived.Test.YtfjpapddfdhhlaaIdlK
import Derived.Test.YtfjpapddfdhhlaaKxIn
import Derived.Test.YtfjpapddfdhhlaaRows
set_option linter.unusedVariables false
set_option linter.unusedSimpArgs false
namespace Go.Proofs.Ytfjpapddfdhhlaa.lawIdealPlays
open Go Go.Kx
open Go.ChangeShapes Go.WideShapes Go.ChangeAt Go.RowKit

theorem own : ownKnob Try.prog.godebug = none := by kernel_rfl
theorem laid : laidOutB Try.prog = true := by kernel_rfl
theorem rd : Try.f4.params.toList.all (fun t => Try.prog.readableRec t && decide (t < Try.prog.types.size)) = true := by kernel_rfl
theorem c29 : Try.prog.cellsOf 29 = 5 := by kernel_rfl
theorem c3 : Try.prog.cellsOf 3 = 1 := by kernel_rfl
theorem c27 : Try.prog.cellsOf 27 = 1 := by kernel_rfl
theorem c5 : Try.prog.cellsOf 5 = 1 := by kernel_rfl
theorem el1 {H : Type} {enc : TypeId × Value → H} {W : World} : ∀ (n : Nat) (cs : List Value) (x : DataW H × List MemPlace), DataW.trod enc Try.prog W 0 (fun _ => true) true n 29 cs = some x → ∃ x, cs = encO x ∧ ((Lit.int .i64 x.1).wf = true ∧ (Lit.int .i64 x.2.1).wf = true ∧ (Lit.int .i64 x.2.2.1).wf = true ∧ (Lit.int .i64 x.2.2.2.1).wf = true ∧ (ListAt (Value.int .u8) (heapOf W) (x.2.2.2.2).1 (x.2.2.2.2).2 ∧ ∀ z, z ∈ (x.2.2.2.2).2 → (Lit.int .u8 z).wf = true)) := by
  intro n cs x h
  obtain ⟨hl, hf⟩ := trod_field Try.underlying29 h
  obtain ⟨n0, y0, h0⟩ := hf 0 _ rfl
  obtain ⟨a0, g0, w0⟩ := f_int Try.underlying3 c3 h0
  obtain ⟨n1, y1, h1⟩ := hf 1 _ rfl
  obtain ⟨a1, g1, w1⟩ := f_int Try.underlying3 c3 h1
  obtain ⟨n2, y2, h2⟩ := hf 2 _ rfl
  obtain ⟨a2, g2, w2⟩ := f_int Try.underlying3 c3 h2
  obtain ⟨n3, y3, h3⟩ := hf 3 _ rfl
  obtain ⟨a3, g3, w3⟩ := f_int Try.underlying3 c3 h3
  obtain ⟨n4, y4, h4⟩ := hf 4 _ rfl
  obtain ⟨a4, g4, w4⟩ := f_ints Try.underlying27 c27 c5 Try.underlying5 h4
  exact ⟨(a0, a1, a2, a3, a4), list5 (hl.trans c29) g0 g1 g2 g3 g4, ⟨w0, w1, w2, w3, w4⟩⟩

theorem contract (H : Type) (enc : TypeId × Value → H) (W : World) (base : Nat) (args : Array Value) (ds gs : List (DataW H)) (before : List MemPlace)
    (hval : ∀ (j : Nat) t v, Try.f4.params[j]? = some t → args[j]? = some v → Value.okWide Try.prog W .any base t v)
    (hW : DataW.Whole enc Try.prog Try.f4.params.toList Rows.idealPlaysSpec.vars false W args.toList ds gs before) :
    Calls Try.prog 4 args W fun e W' => ∃ v, e = .returned v ∧ Rows.idealPlaysSpec.post enc Try.prog Try.f4 false true false false W args v W' := by
  have hW' := hW
  obtain ⟨p, q, hA, hV, rfl, hfz, hnd⟩ := hW
  rw [Try.params4] at hA hval
  obtain ⟨v0, vs0, d0, ds0, p0, q0, hargs, rfl, rfl, h0, r0⟩ := trodAll_cons hA
  obtain ⟨v1, vs1, d1, ds1, p1, q1, rfl, rfl, rfl, h1, r1⟩ := trodAll_cons r0
  obtain ⟨v2, vs2, d2, ds2, p2, q2, rfl, rfl, rfl, h2, r2⟩ := trodAll_cons r1
  obtain ⟨rfl, rfl, rfl⟩ := trodAll_nil r2
  obtain rfl : args = #[v0, v1, v2] := by cases args; simp_all
  obtain ⟨rfl, rfl⟩ := trodVars_none hV
  obtain ⟨x0, rfl, rfl, rfl, w0⟩ := open_int Try.underlying3 (hval 0 3 v0 rfl rfl) h0
  obtain ⟨n1, g1⟩ := trod_of_slice Try.underlying36 (hval 1 36 v1 rfl rfl) h1
  obtain ⟨s1, l1, e1, L1, R1, B1⟩ := in_sliceB Try.underlying36 c29 (by decide) el1 g1
  obtain rfl : v1 = Sl.v s1 := by simpa using e1
  obtain ⟨x2, rfl, rfl, rfl, w2⟩ := open_int Try.underlying3 (hval 2 3 v2 rfl rfl) h2
  refine (calls_done (keelsonlaw24_IdealPlays_s x0 s1 x2 (heapOf W) _ (plays_law L1 (fun x hx => (R1 x hx).2.2.2.2.1) B1))).mono fun e W' ⟨he, hg⟩ => ?_
  exact ⟨_, he, post_law laid rd rfl Try.underlying4 rfl ⟨rfl, rfl, rfl⟩ hW' hg⟩

set_option maxRecDepth 100000 in
theorem lifted (os : Os) (started : os.Started) (H : Type) (enc : TypeId × Value → H) :
    ReturnsInHanded {} Try.checked os 4 .any (Rows.idealPlaysSpec.pre6 enc Try.prog Try.f4 Rows.idealPlaysRow.domain false) (Rows.idealPlaysSpec.post enc Try.prog Try.f4 false true false false) := by
  refine returnsInHanded_of_change (C := Try.checked) own started (by kernel_rfl) Try.func4
    (ChangeSpec.witness6 (enc := enc) (C := Try.checked) false ⟨#[], #[.int .i64 0, .slice none 0 0, .int .i64 0], []⟩ 8 (by kernel_rfl) (by kernel_rfl) (by kernel_rfl) (by kernel_rfl)) ?_
  intro W base args ds gs before hval hW _ _
  exact contract H enc W base args ds gs before hval hW

theorem over : Rows.idealPlaysRow.holds Try.pinned (OpenSpec.ofChange Rows.idealPlaysSpec) :=
  OpenClaim.holds_of_wide 4 Try.f4 rfl rfl rfl rfl rfl rfl rfl ⟨rfl, rfl, rfl, rfl, rfl⟩ rfl rfl rfl rfl rfl (by kernel_rfl) Try.func4 (by kernel_rfl)
    (of_decide_eq_true (by kernel_rfl)) (by unfold Func.isWrapper; first | (rw [if_pos (by decide +kernel)]; kernel_rfl) | (rw [if_neg (by decide +kernel)]; exact ⟨rfl, rfl⟩))
    (fun os started H enc _ => lifted os started H enc)

theorem proved : Rows.IdealPlaysSaid := over
#print axioms proved
end Go.Proofs.Ytfjpapddfdhhlaa.lawIdealPlays

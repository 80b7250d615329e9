import Derived.Test.YtgnnfafidhfhfaaProg
import Derived.Test.YtgnnfafidhfhfaaKxF
import Derived.KernelRfl
set_option linter.unusedVariables false
set_option linter.unusedSimpArgs false
namespace Go.Proofs.Ytgnnfafidhfhfaa
open Go Go.Kx Go.Proofs
theorem body41 : Body Try.prog 41 := body_of Try.func41 rfl rfl
theorem slice31 : SliceOf Try.prog 31 3 1 := ⟨Try.underlying31, by kernel_rfl⟩
theorem bytes3 : BytesOf Try.prog 3 8 := by unfold BytesOf; kernel_rfl
theorem zero3 : ZeroOf Try.prog 3 (.int .i64 0) := by unfold ZeroOf; kernel_rfl
theorem mixed : Try.prog.follows .mixedOrders = true := by kernel_rfl
theorem body37 : Body Try.prog 37 := body_of Try.func37 rfl rfl
theorem slice53 : SliceOf Try.prog 53 4 1 := ⟨Try.underlying53, by kernel_rfl⟩
theorem bytes4 : BytesOf Try.prog 4 1 := by unfold BytesOf; kernel_rfl
theorem zero4 : ZeroOf Try.prog 4 (.bool false) := by unfold ZeroOf; kernel_rfl
theorem places60 : PlacesOf Try.prog 60 [(0, 1), (1, 1), (2, 1)] := ⟨_, Try.underlying60, rfl, by kernel_rfl⟩
theorem zero60 : ZeroOf Try.prog 60 (.agg ([.slice none 0 0, .int .i64 0, .slice none 0 0] : List Value).toArray) := by unfold ZeroOf; kernel_rfl
theorem body27 : Body Try.prog 27 := body_of Try.func27 rfl rfl
theorem foff60_0 : FieldOff Try.prog 60 0 0 := ⟨_, _, 1, Try.underlying60, rfl, rfl, by kernel_rfl, by decide⟩
theorem scalar31 : Scalar Try.prog 31 := ⟨_, Try.underlying31, trivial⟩
theorem scalar3 : Scalar Try.prog 3 := ⟨_, Try.underlying3, trivial⟩
theorem body24 : Body Try.prog 24 := body_of Try.func24 rfl rfl
theorem foff60_2 : FieldOff Try.prog 60 2 2 := ⟨_, _, 1, Try.underlying60, rfl, rfl, by kernel_rfl, by decide⟩
theorem scalar53 : Scalar Try.prog 53 := ⟨_, Try.underlying53, trivial⟩
theorem foff60_1 : FieldOff Try.prog 60 1 1 := ⟨_, _, 1, Try.underlying60, rfl, rfl, by kernel_rfl, by decide⟩
theorem size3 : (Try.prog.info? 3).map (·.size) = some 1 := by kernel_rfl
theorem size4 : (Try.prog.info? 4).map (·.size) = some 1 := by kernel_rfl
theorem body17 : Body Try.prog 17 := body_of Try.func17 rfl rfl
theorem scalar24 : Scalar Try.prog 24 := ⟨_, Try.underlying24, trivial⟩
theorem scalar4 : Scalar Try.prog 4 := ⟨_, Try.underlying4, trivial⟩
theorem body20 : Body Try.prog 20 := body_of Try.func20 rfl rfl
theorem body38 : Body Try.prog 38 := body_of Try.func38 rfl rfl
theorem zero31 : ZeroOf Try.prog 31 (.slice none 0 0) := by unfold ZeroOf; kernel_rfl
theorem size31 : (Try.prog.info? 31).map (·.size) = some 1 := by kernel_rfl
theorem body29 : Body Try.prog 29 := body_of Try.func29 rfl rfl
theorem body34 : Body Try.prog 34 := body_of Try.func34 rfl rfl
theorem body35 : Body Try.prog 35 := body_of Try.func35 rfl rfl
theorem body13 : Body Try.prog 13 := body_of Try.func13 rfl rfl
theorem body12 : Body Try.prog 12 := body_of Try.func12 rfl rfl
theorem body21 : Body Try.prog 21 := body_of Try.func21 rfl rfl
theorem body10 : Body Try.prog 10 := body_of Try.func10 rfl rfl
theorem body11 : Body Try.prog 11 := body_of Try.func11 rfl rfl
theorem body8 : Body Try.prog 8 := body_of Try.func8 rfl rfl
theorem body28 : Body Try.prog 28 := body_of Try.func28 rfl rfl
theorem body7 : Body Try.prog 7 := body_of Try.func7 rfl rfl
theorem zero26 : ZeroOf Try.prog 26 (.agg ((List.replicate 40 (.int .i64 0)) : List Value).toArray) := by unfold ZeroOf; kernel_rfl
theorem slice22 : SliceOf Try.prog 22 28 2 := ⟨Try.underlying22, by kernel_rfl⟩
theorem array28 : ArrayOf Try.prog 28 2 3 1 := ⟨Try.underlying28, by kernel_rfl⟩
theorem array26 : ArrayOf Try.prog 26 40 3 1 := ⟨Try.underlying26, by kernel_rfl⟩
theorem body9 : Body Try.prog 9 := body_of Try.func9 rfl rfl
theorem zero30 : ZeroOf Try.prog 30 (.agg ((List.replicate 10 (.bool false)) : List Value).toArray) := by unfold ZeroOf; kernel_rfl
theorem array30 : ArrayOf Try.prog 30 10 4 1 := ⟨Try.underlying30, by kernel_rfl⟩
theorem slice35 : SliceOf Try.prog 35 9 1 := ⟨Try.underlying35, by kernel_rfl⟩
theorem bytes9 : BytesOf Try.prog 9 16 := by unfold BytesOf; kernel_rfl
theorem zero9 : ZeroOf Try.prog 9 (.string ⟨#[]⟩) := by unfold ZeroOf; kernel_rfl
theorem places63 : PlacesOf Try.prog 63 [(0, 1), (1, 1), (2, 1)] := ⟨_, Try.underlying63, rfl, by kernel_rfl⟩
theorem zero63 : ZeroOf Try.prog 63 (.agg ([.slice none 0 0, .int .i64 0, .slice none 0 0] : List Value).toArray) := by unfold ZeroOf; kernel_rfl
theorem body30 : Body Try.prog 30 := body_of Try.func30 rfl rfl
theorem foff63_2 : FieldOff Try.prog 63 2 2 := ⟨_, _, 1, Try.underlying63, rfl, rfl, by kernel_rfl, by decide⟩
theorem foff63_0 : FieldOff Try.prog 63 0 0 := ⟨_, _, 1, Try.underlying63, rfl, rfl, by kernel_rfl, by decide⟩
theorem scalar35 : Scalar Try.prog 35 := ⟨_, Try.underlying35, trivial⟩
theorem scalar9 : Scalar Try.prog 9 := ⟨_, Try.underlying9, trivial⟩
theorem body31 : Body Try.prog 31 := body_of Try.func31 rfl rfl
theorem foff63_1 : FieldOff Try.prog 63 1 1 := ⟨_, _, 1, Try.underlying63, rfl, rfl, by kernel_rfl, by decide⟩
theorem size9 : (Try.prog.info? 9).map (·.size) = some 1 := by kernel_rfl
theorem body18 : Body Try.prog 18 := body_of Try.func18 rfl rfl
theorem scalar36 : Scalar Try.prog 36 := ⟨_, Try.underlying36, trivial⟩
theorem body33 : Body Try.prog 33 := body_of Try.func33 rfl rfl
theorem body32 : Body Try.prog 32 := body_of Try.func32 rfl rfl
theorem body16 : Body Try.prog 16 := body_of Try.func16 rfl rfl
theorem body15 : Body Try.prog 15 := body_of Try.func15 rfl rfl
theorem body19 : Body Try.prog 19 := body_of Try.func19 rfl rfl
theorem body14 : Body Try.prog 14 := body_of Try.func14 rfl rfl
theorem body39 : Body Try.prog 39 := body_of Try.func39 rfl rfl
theorem body36 : Body Try.prog 36 := body_of Try.func36 rfl rfl
theorem body22 : Body Try.prog 22 := body_of Try.func22 rfl rfl
theorem slice51 : SliceOf Try.prog 51 55 4 := ⟨Try.underlying51, by kernel_rfl⟩
theorem aggr55 : Aggr Try.prog 55 4 := ⟨⟨_, Try.underlying55, trivial⟩, by kernel_rfl⟩
theorem zero55 : ZeroOf Try.prog 55 (.agg ([.int .i64 0, .int .i64 0, .int .i64 0, .slice none 0 0] : List Value).toArray) := by unfold ZeroOf; kernel_rfl
theorem size55 : (Try.prog.info? 55).map (·.size) = some 4 := by kernel_rfl
theorem foff55_3 : FieldOff Try.prog 55 3 3 := ⟨_, _, 1, Try.underlying55, rfl, rfl, by kernel_rfl, by decide⟩
theorem foff55_0 : FieldOff Try.prog 55 0 0 := ⟨_, _, 1, Try.underlying55, rfl, rfl, by kernel_rfl, by decide⟩
theorem foff55_1 : FieldOff Try.prog 55 1 1 := ⟨_, _, 1, Try.underlying55, rfl, rfl, by kernel_rfl, by decide⟩
theorem foff55_2 : FieldOff Try.prog 55 2 2 := ⟨_, _, 1, Try.underlying55, rfl, rfl, by kernel_rfl, by decide⟩
theorem body26 : Body Try.prog 26 := body_of Try.func26 rfl rfl
theorem body25 : Body Try.prog 25 := body_of Try.func25 rfl rfl
theorem body23 : Body Try.prog 23 := body_of Try.func23 rfl rfl

/-- math.bits.Mul32 -/
def bits_Mul32 (p0 : Int) (p1 : Int) (H : PH) (Q : Int → Int → PH → Prop) : Prop :=
  Q (IntKind.wrap .u32 (ishr .u64 (IntKind.wrap .u64 ((IntKind.wrap .u64 p0) * (IntKind.wrap .u64 p1))) 32)) (IntKind.wrap .u32 (IntKind.wrap .u64 ((IntKind.wrap .u64 p0) * (IntKind.wrap .u64 p1)))) H

set_option maxRecDepth 20000 in
set_option maxHeartbeats 1000000 in
theorem bits_Mul32_s (p0 : Int) (p1 : Int) (H : PH) (Q : Int → Int → PH → Prop) (h : bits_Mul32 p0 p1 H Q) :
    CallsH Try.prog 40 #[.int .u32 p0, .int .u32 p1] H (fun v H' => ∃ (r0 : Int) (r1 : Int), v = .tuple #[.int .u32 r0, .int .u32 r1] ∧ Q r0 r1 H') := by
  unfold bits_Mul32 at h
  refine callsH_of_go Try.func40 rfl Try.ntmps40 (Nat.le_of_ble_eq_true rfl) ?_
  refine Go.seq ?_
  refine Go.region rfl ?_
  refine GoOps.q (v := .int .u32 0) rfl rfl (by decide) (q_assign rfl) ?_
  refine GoOps.q (v := .int .u32 0) rfl rfl (by decide) (q_assign rfl) ?_
  refine GoOps.nil ?_
  refine Go.seq ?_
  refine Go.region rfl ?_
  refine GoOps.q (v := .int .u32 p0) rfl rfl (by decide) (q_move rfl) ?_
  refine GoOps.q (v := .int .u64 (IntKind.wrap .u64 p0)) rfl rfl (by decide) (q_conv Try.underlying72 Try.underlying75 rfl) ?_
  refine GoOps.q (v := .int .u32 p1) rfl rfl (by decide) (q_move rfl) ?_
  refine GoOps.q (v := .int .u64 (IntKind.wrap .u64 p1)) rfl rfl (by decide) (q_conv Try.underlying72 Try.underlying75 rfl) ?_
  refine GoOps.q (v := .int .u64 (IntKind.wrap .u64 ((IntKind.wrap .u64 p0) * (IntKind.wrap .u64 p1)))) rfl rfl (by decide) (q_mul rfl rfl) ?_
  refine GoOps.q (v := .int .u64 (IntKind.wrap .u64 ((IntKind.wrap .u64 p0) * (IntKind.wrap .u64 p1)))) rfl rfl (by decide) (q_assign rfl) ?_
  refine GoOps.nil ?_
  refine Go.seq ?_
  refine Go.region rfl ?_
  refine GoOps.q (v := .int .u64 (IntKind.wrap .u64 ((IntKind.wrap .u64 p0) * (IntKind.wrap .u64 p1)))) rfl rfl (by decide) (q_move rfl) ?_
  refine GoOps.q (v := .int .u64 (ishr .u64 (IntKind.wrap .u64 ((IntKind.wrap .u64 p0) * (IntKind.wrap .u64 p1))) 32)) rfl rfl (by decide) (q_shr (by decide) rfl rfl) ?_
  refine GoOps.q (v := .int .u32 (IntKind.wrap .u32 (ishr .u64 (IntKind.wrap .u64 ((IntKind.wrap .u64 p0) * (IntKind.wrap .u64 p1))) 32))) rfl rfl (by decide) (q_conv Try.underlying75 Try.underlying72 rfl) ?_
  refine GoOps.q (v := .int .u64 (IntKind.wrap .u64 ((IntKind.wrap .u64 p0) * (IntKind.wrap .u64 p1)))) rfl rfl (by decide) (q_move rfl) ?_
  refine GoOps.q (v := .int .u32 (IntKind.wrap .u32 (IntKind.wrap .u64 ((IntKind.wrap .u64 p0) * (IntKind.wrap .u64 p1))))) rfl rfl (by decide) (q_conv Try.underlying75 Try.underlying72 rfl) ?_
  refine GoOps.q (v := .int .u32 (IntKind.wrap .u32 (ishr .u64 (IntKind.wrap .u64 ((IntKind.wrap .u64 p0) * (IntKind.wrap .u64 p1))) 32))) rfl rfl (by decide) (q_assign rfl) ?_
  refine GoOps.q (v := .int .u32 (IntKind.wrap .u32 (IntKind.wrap .u64 ((IntKind.wrap .u64 p0) * (IntKind.wrap .u64 p1))))) rfl rfl (by decide) (q_assign rfl) ?_
  refine GoOps.nil ?_
  exact Go.ret ⟨.inl rfl, _, _, DOk.nil, (resOk2 Try.results40 rfl rfl), ⟨_, _, rfl, h⟩⟩

/-- math.bits.Mul64 -/
def bits_Mul64 (p0 : Int) (p1 : Int) (H : PH) (Q : Int → Int → PH → Prop) : Prop :=
  Q (IntKind.wrap .u64 ((IntKind.wrap .u64 ((IntKind.wrap .u64 ((ishr .u64 p0 32) * (ishr .u64 p1 32))) + (ishr .u64 (IntKind.wrap .u64 ((IntKind.wrap .u64 ((ishr .u64 p0 32) * (iand .u64 p1 4294967295))) + (ishr .u64 (IntKind.wrap .u64 ((iand .u64 p0 4294967295) * (iand .u64 p1 4294967295))) 32))) 32))) + (ishr .u64 (IntKind.wrap .u64 ((iand .u64 (IntKind.wrap .u64 ((IntKind.wrap .u64 ((ishr .u64 p0 32) * (iand .u64 p1 4294967295))) + (ishr .u64 (IntKind.wrap .u64 ((iand .u64 p0 4294967295) * (iand .u64 p1 4294967295))) 32))) 4294967295) + (IntKind.wrap .u64 ((iand .u64 p0 4294967295) * (ishr .u64 p1 32))))) 32))) (IntKind.wrap .u64 (p0 * p1)) H

set_option maxRecDepth 20000 in
set_option maxHeartbeats 1000000 in
theorem bits_Mul64_s (p0 : Int) (p1 : Int) (H : PH) (Q : Int → Int → PH → Prop) (h : bits_Mul64 p0 p1 H Q) :
    CallsH Try.prog 41 #[.int .u64 p0, .int .u64 p1] H (fun v H' => ∃ (r0 : Int) (r1 : Int), v = .tuple #[.int .u64 r0, .int .u64 r1] ∧ Q r0 r1 H') := by
  unfold bits_Mul64 at h
  refine callsH_of_go Try.func41 rfl Try.ntmps41 (Nat.le_of_ble_eq_true rfl) ?_
  refine Go.seq ?_
  refine Go.region rfl ?_
  refine GoOps.q (v := .int .u64 0) rfl rfl (by decide) (q_assign rfl) ?_
  refine GoOps.q (v := .int .u64 0) rfl rfl (by decide) (q_assign rfl) ?_
  refine GoOps.nil ?_
  refine Go.seq ?_
  refine Go.region rfl ?_
  refine GoOps.q (v := .int .u64 p0) rfl rfl (by decide) (q_move rfl) ?_
  refine GoOps.q (v := .int .u64 (iand .u64 p0 4294967295)) rfl rfl (by decide) (q_and rfl rfl) ?_
  refine GoOps.q (v := .int .u64 (iand .u64 p0 4294967295)) rfl rfl (by decide) (q_assign rfl) ?_
  refine GoOps.nil ?_
  refine Go.seq ?_
  refine Go.region rfl ?_
  refine GoOps.q (v := .int .u64 p0) rfl rfl (by decide) (q_move rfl) ?_
  refine GoOps.q (v := .int .u64 (ishr .u64 p0 32)) rfl rfl (by decide) (q_shr (by decide) rfl rfl) ?_
  refine GoOps.q (v := .int .u64 (ishr .u64 p0 32)) rfl rfl (by decide) (q_assign rfl) ?_
  refine GoOps.nil ?_
  refine Go.seq ?_
  refine Go.region rfl ?_
  refine GoOps.q (v := .int .u64 p1) rfl rfl (by decide) (q_move rfl) ?_
  refine GoOps.q (v := .int .u64 (iand .u64 p1 4294967295)) rfl rfl (by decide) (q_and rfl rfl) ?_
  refine GoOps.q (v := .int .u64 (iand .u64 p1 4294967295)) rfl rfl (by decide) (q_assign rfl) ?_
  refine GoOps.nil ?_
  refine Go.seq ?_
  refine Go.region rfl ?_
  refine GoOps.q (v := .int .u64 p1) rfl rfl (by decide) (q_move rfl) ?_
  refine GoOps.q (v := .int .u64 (ishr .u64 p1 32)) rfl rfl (by decide) (q_shr (by decide) rfl rfl) ?_
  refine GoOps.q (v := .int .u64 (ishr .u64 p1 32)) rfl rfl (by decide) (q_assign rfl) ?_
  refine GoOps.nil ?_
  refine Go.seq ?_
  refine Go.region rfl ?_
  refine GoOps.q (v := .int .u64 (iand .u64 p0 4294967295)) rfl rfl (by decide) (q_move rfl) ?_
  refine GoOps.q (v := .int .u64 (iand .u64 p1 4294967295)) rfl rfl (by decide) (q_move rfl) ?_
  refine GoOps.q (v := .int .u64 (IntKind.wrap .u64 ((iand .u64 p0 4294967295) * (iand .u64 p1 4294967295)))) rfl rfl (by decide) (q_mul rfl rfl) ?_
  refine GoOps.q (v := .int .u64 (IntKind.wrap .u64 ((iand .u64 p0 4294967295) * (iand .u64 p1 4294967295)))) rfl rfl (by decide) (q_assign rfl) ?_
  refine GoOps.nil ?_
  refine Go.seq ?_
  refine Go.region rfl ?_
  refine GoOps.q (v := .int .u64 (ishr .u64 p0 32)) rfl rfl (by decide) (q_move rfl) ?_
  refine GoOps.q (v := .int .u64 (iand .u64 p1 4294967295)) rfl rfl (by decide) (q_move rfl) ?_
  refine GoOps.q (v := .int .u64 (IntKind.wrap .u64 ((ishr .u64 p0 32) * (iand .u64 p1 4294967295)))) rfl rfl (by decide) (q_mul rfl rfl) ?_
  refine GoOps.q (v := .int .u64 (IntKind.wrap .u64 ((iand .u64 p0 4294967295) * (iand .u64 p1 4294967295)))) rfl rfl (by decide) (q_move rfl) ?_
  refine GoOps.q (v := .int .u64 (ishr .u64 (IntKind.wrap .u64 ((iand .u64 p0 4294967295) * (iand .u64 p1 4294967295))) 32)) rfl rfl (by decide) (q_shr (by decide) rfl rfl) ?_
  refine GoOps.q (v := .int .u64 (IntKind.wrap .u64 ((IntKind.wrap .u64 ((ishr .u64 p0 32) * (iand .u64 p1 4294967295))) + (ishr .u64 (IntKind.wrap .u64 ((iand .u64 p0 4294967295) * (iand .u64 p1 4294967295))) 32)))) rfl rfl (by decide) (q_add rfl rfl) ?_
  refine GoOps.q (v := .int .u64 (IntKind.wrap .u64 ((IntKind.wrap .u64 ((ishr .u64 p0 32) * (iand .u64 p1 4294967295))) + (ishr .u64 (IntKind.wrap .u64 ((iand .u64 p0 4294967295) * (iand .u64 p1 4294967295))) 32)))) rfl rfl (by decide) (q_assign rfl) ?_
  refine GoOps.nil ?_
  refine Go.seq ?_
  refine Go.region rfl ?_
  refine GoOps.q (v := .int .u64 (IntKind.wrap .u64 ((IntKind.wrap .u64 ((ishr .u64 p0 32) * (iand .u64 p1 4294967295))) + (ishr .u64 (IntKind.wrap .u64 ((iand .u64 p0 4294967295) * (iand .u64 p1 4294967295))) 32)))) rfl rfl (by decide) (q_move rfl) ?_
  refine GoOps.q (v := .int .u64 (iand .u64 (IntKind.wrap .u64 ((IntKind.wrap .u64 ((ishr .u64 p0 32) * (iand .u64 p1 4294967295))) + (ishr .u64 (IntKind.wrap .u64 ((iand .u64 p0 4294967295) * (iand .u64 p1 4294967295))) 32))) 4294967295)) rfl rfl (by decide) (q_and rfl rfl) ?_
  refine GoOps.q (v := .int .u64 (iand .u64 (IntKind.wrap .u64 ((IntKind.wrap .u64 ((ishr .u64 p0 32) * (iand .u64 p1 4294967295))) + (ishr .u64 (IntKind.wrap .u64 ((iand .u64 p0 4294967295) * (iand .u64 p1 4294967295))) 32))) 4294967295)) rfl rfl (by decide) (q_assign rfl) ?_
  refine GoOps.nil ?_
  refine Go.seq ?_
  refine Go.region rfl ?_
  refine GoOps.q (v := .int .u64 (IntKind.wrap .u64 ((IntKind.wrap .u64 ((ishr .u64 p0 32) * (iand .u64 p1 4294967295))) + (ishr .u64 (IntKind.wrap .u64 ((iand .u64 p0 4294967295) * (iand .u64 p1 4294967295))) 32)))) rfl rfl (by decide) (q_move rfl) ?_
  refine GoOps.q (v := .int .u64 (ishr .u64 (IntKind.wrap .u64 ((IntKind.wrap .u64 ((ishr .u64 p0 32) * (iand .u64 p1 4294967295))) + (ishr .u64 (IntKind.wrap .u64 ((iand .u64 p0 4294967295) * (iand .u64 p1 4294967295))) 32))) 32)) rfl rfl (by decide) (q_shr (by decide) rfl rfl) ?_
  refine GoOps.q (v := .int .u64 (ishr .u64 (IntKind.wrap .u64 ((IntKind.wrap .u64 ((ishr .u64 p0 32) * (iand .u64 p1 4294967295))) + (ishr .u64 (IntKind.wrap .u64 ((iand .u64 p0 4294967295) * (iand .u64 p1 4294967295))) 32))) 32)) rfl rfl (by decide) (q_assign rfl) ?_
  refine GoOps.nil ?_
  refine Go.seq ?_
  refine Go.region rfl ?_
  refine GoOps.q (v := .int .u64 (iand .u64 (IntKind.wrap .u64 ((IntKind.wrap .u64 ((ishr .u64 p0 32) * (iand .u64 p1 4294967295))) + (ishr .u64 (IntKind.wrap .u64 ((iand .u64 p0 4294967295) * (iand .u64 p1 4294967295))) 32))) 4294967295)) rfl rfl (by decide) (q_move rfl) ?_
  refine GoOps.q (v := .int .u64 (iand .u64 p0 4294967295)) rfl rfl (by decide) (q_move rfl) ?_
  refine GoOps.q (v := .int .u64 (ishr .u64 p1 32)) rfl rfl (by decide) (q_move rfl) ?_
  refine GoOps.q (v := .int .u64 (IntKind.wrap .u64 ((iand .u64 p0 4294967295) * (ishr .u64 p1 32)))) rfl rfl (by decide) (q_mul rfl rfl) ?_
  refine GoOps.q (v := .int .u64 (IntKind.wrap .u64 ((iand .u64 (IntKind.wrap .u64 ((IntKind.wrap .u64 ((ishr .u64 p0 32) * (iand .u64 p1 4294967295))) + (ishr .u64 (IntKind.wrap .u64 ((iand .u64 p0 4294967295) * (iand .u64 p1 4294967295))) 32))) 4294967295) + (IntKind.wrap .u64 ((iand .u64 p0 4294967295) * (ishr .u64 p1 32)))))) rfl rfl (by decide) (q_add rfl rfl) ?_
  refine GoOps.q (v := .int .u64 (IntKind.wrap .u64 ((iand .u64 (IntKind.wrap .u64 ((IntKind.wrap .u64 ((ishr .u64 p0 32) * (iand .u64 p1 4294967295))) + (ishr .u64 (IntKind.wrap .u64 ((iand .u64 p0 4294967295) * (iand .u64 p1 4294967295))) 32))) 4294967295) + (IntKind.wrap .u64 ((iand .u64 p0 4294967295) * (ishr .u64 p1 32)))))) rfl rfl (by decide) (q_assign rfl) ?_
  refine GoOps.nil ?_
  refine Go.seq ?_
  refine Go.region rfl ?_
  refine GoOps.q (v := .int .u64 (ishr .u64 p0 32)) rfl rfl (by decide) (q_move rfl) ?_
  refine GoOps.q (v := .int .u64 (ishr .u64 p1 32)) rfl rfl (by decide) (q_move rfl) ?_
  refine GoOps.q (v := .int .u64 (IntKind.wrap .u64 ((ishr .u64 p0 32) * (ishr .u64 p1 32)))) rfl rfl (by decide) (q_mul rfl rfl) ?_
  refine GoOps.q (v := .int .u64 (ishr .u64 (IntKind.wrap .u64 ((IntKind.wrap .u64 ((ishr .u64 p0 32) * (iand .u64 p1 4294967295))) + (ishr .u64 (IntKind.wrap .u64 ((iand .u64 p0 4294967295) * (iand .u64 p1 4294967295))) 32))) 32)) rfl rfl (by decide) (q_move rfl) ?_
  refine GoOps.q (v := .int .u64 (IntKind.wrap .u64 ((IntKind.wrap .u64 ((ishr .u64 p0 32) * (ishr .u64 p1 32))) + (ishr .u64 (IntKind.wrap .u64 ((IntKind.wrap .u64 ((ishr .u64 p0 32) * (iand .u64 p1 4294967295))) + (ishr .u64 (IntKind.wrap .u64 ((iand .u64 p0 4294967295) * (iand .u64 p1 4294967295))) 32))) 32)))) rfl rfl (by decide) (q_add rfl rfl) ?_
  refine GoOps.q (v := .int .u64 (IntKind.wrap .u64 ((iand .u64 (IntKind.wrap .u64 ((IntKind.wrap .u64 ((ishr .u64 p0 32) * (iand .u64 p1 4294967295))) + (ishr .u64 (IntKind.wrap .u64 ((iand .u64 p0 4294967295) * (iand .u64 p1 4294967295))) 32))) 4294967295) + (IntKind.wrap .u64 ((iand .u64 p0 4294967295) * (ishr .u64 p1 32)))))) rfl rfl (by decide) (q_move rfl) ?_
  refine GoOps.q (v := .int .u64 (ishr .u64 (IntKind.wrap .u64 ((iand .u64 (IntKind.wrap .u64 ((IntKind.wrap .u64 ((ishr .u64 p0 32) * (iand .u64 p1 4294967295))) + (ishr .u64 (IntKind.wrap .u64 ((iand .u64 p0 4294967295) * (iand .u64 p1 4294967295))) 32))) 4294967295) + (IntKind.wrap .u64 ((iand .u64 p0 4294967295) * (ishr .u64 p1 32))))) 32)) rfl rfl (by decide) (q_shr (by decide) rfl rfl) ?_
  refine GoOps.q (v := .int .u64 (IntKind.wrap .u64 ((IntKind.wrap .u64 ((IntKind.wrap .u64 ((ishr .u64 p0 32) * (ishr .u64 p1 32))) + (ishr .u64 (IntKind.wrap .u64 ((IntKind.wrap .u64 ((ishr .u64 p0 32) * (iand .u64 p1 4294967295))) + (ishr .u64 (IntKind.wrap .u64 ((iand .u64 p0 4294967295) * (iand .u64 p1 4294967295))) 32))) 32))) + (ishr .u64 (IntKind.wrap .u64 ((iand .u64 (IntKind.wrap .u64 ((IntKind.wrap .u64 ((ishr .u64 p0 32) * (iand .u64 p1 4294967295))) + (ishr .u64 (IntKind.wrap .u64 ((iand .u64 p0 4294967295) * (iand .u64 p1 4294967295))) 32))) 4294967295) + (IntKind.wrap .u64 ((iand .u64 p0 4294967295) * (ishr .u64 p1 32))))) 32)))) rfl rfl (by decide) (q_add rfl rfl) ?_
  refine GoOps.q (v := .int .u64 (IntKind.wrap .u64 ((IntKind.wrap .u64 ((IntKind.wrap .u64 ((ishr .u64 p0 32) * (ishr .u64 p1 32))) + (ishr .u64 (IntKind.wrap .u64 ((IntKind.wrap .u64 ((ishr .u64 p0 32) * (iand .u64 p1 4294967295))) + (ishr .u64 (IntKind.wrap .u64 ((iand .u64 p0 4294967295) * (iand .u64 p1 4294967295))) 32))) 32))) + (ishr .u64 (IntKind.wrap .u64 ((iand .u64 (IntKind.wrap .u64 ((IntKind.wrap .u64 ((ishr .u64 p0 32) * (iand .u64 p1 4294967295))) + (ishr .u64 (IntKind.wrap .u64 ((iand .u64 p0 4294967295) * (iand .u64 p1 4294967295))) 32))) 4294967295) + (IntKind.wrap .u64 ((iand .u64 p0 4294967295) * (ishr .u64 p1 32))))) 32)))) rfl rfl (by decide) (q_assign rfl) ?_
  refine GoOps.nil ?_
  refine Go.seq ?_
  refine Go.region rfl ?_
  refine GoOps.q (v := .int .u64 p0) rfl rfl (by decide) (q_move rfl) ?_
  refine GoOps.q (v := .int .u64 p1) rfl rfl (by decide) (q_move rfl) ?_
  refine GoOps.q (v := .int .u64 (IntKind.wrap .u64 (p0 * p1))) rfl rfl (by decide) (q_mul rfl rfl) ?_
  refine GoOps.q (v := .int .u64 (IntKind.wrap .u64 (p0 * p1))) rfl rfl (by decide) (q_assign rfl) ?_
  refine GoOps.nil ?_
  exact Go.ret ⟨.inl rfl, _, _, DOk.nil, (resOk2 Try.results41 rfl rfl), ⟨_, _, rfl, h⟩⟩

/-- math.bits.Mul -/
def bits_Mul (p0 : Int) (p1 : Int) (H : PH) (Q : Int → Int → PH → Prop) : Prop :=
  bits_Mul64 p0 p1 H fun y2 y3 H1 =>
  Q y2 y3 H1

set_option maxRecDepth 20000 in
set_option maxHeartbeats 1000000 in
theorem bits_Mul_s (p0 : Int) (p1 : Int) (H : PH) (Q : Int → Int → PH → Prop) (h : bits_Mul p0 p1 H Q) :
    CallsH Try.prog 37 #[.int .u64 p0, .int .u64 p1] H (fun v H' => ∃ (r0 : Int) (r1 : Int), v = .tuple #[.int .u64 r0, .int .u64 r1] ∧ Q r0 r1 H') := by
  unfold bits_Mul at h
  refine callsH_of_go Try.func37 rfl Try.ntmps37 (Nat.le_of_ble_eq_true rfl) ?_
  refine Go.seq ?_
  refine Go.region rfl ?_
  refine GoOps.q (v := .int .u64 0) rfl rfl (by decide) (q_assign rfl) ?_
  refine GoOps.q (v := .int .u64 0) rfl rfl (by decide) (q_assign rfl) ?_
  refine GoOps.nil ?_
  refine Go.seq ?_
  refine Go.condF (btF rfl rfl) ?_
  refine Go.skip ?_
  refine Go.seq ?_
  refine Go.region rfl ?_
  refine GoOps.q (v := .int .u64 p0) rfl rfl (by decide) (q_move rfl) ?_
  refine GoOps.q (v := .int .u64 p1) rfl rfl (by decide) (q_move rfl) ?_
  refine call_dst rfl (by decide) body41 (bits_Mul64_s _ _ _ _ h) rfl ?_
  rintro _ H1 ⟨y2, y3, rfl, h⟩
  refine GoOps.q (v := .tuple #[.int .u64 y2, .int .u64 y3]) rfl rfl (by decide) (q_move rfl) ?_
  refine GoOps.q (v := .int .u64 y2) rfl rfl (by decide) (q_extract rfl rfl) ?_
  refine GoOps.q (v := .int .u64 y3) rfl rfl (by decide) (q_extract rfl rfl) ?_
  refine GoOps.q (v := .int .u64 y2) rfl rfl (by decide) (q_assign rfl) ?_
  refine GoOps.q (v := .int .u64 y3) rfl rfl (by decide) (q_assign rfl) ?_
  refine GoOps.nil ?_
  refine Go.seq ?_
  refine Go.region rfl ?_
  refine GoOps.q (v := .int .u64 y2) rfl rfl (by decide) (q_move rfl) ?_
  refine GoOps.q (v := .int .u64 y3) rfl rfl (by decide) (q_move rfl) ?_
  refine GoOps.q (v := .int .u64 y2) rfl rfl (by decide) (q_assign rfl) ?_
  refine GoOps.q (v := .int .u64 y3) rfl rfl (by decide) (q_assign rfl) ?_
  refine GoOps.nil ?_
  exact Go.ret ⟨.inl rfl, _, _, DOk.nil, (resOk2 Try.results37 rfl rfl), ⟨_, _, rfl, h⟩⟩

/-- slices.Repeat[[]int,int] -/
def slices_Repeat_Slint_int (p0 : Sl) (p1 : Int) (H : PH) (Q : Sl → PH → Prop) : Prop :=
  mJoin (fun (s1 : Unit) (H3 : PH) =>
  bits_Mul (IntKind.wrap .u64 (p0.len : Int)) (IntKind.wrap .u64 p1) H3 fun y6 y7 H5 =>
  mJoin (fun (s9 : Bool) (H11 : PH) =>
  mJoin (fun (s13 : Unit) (H15 : PH) =>
  mMk H15 3 8 [.int .i64 0] (IntKind.wrap .i64 y7) (IntKind.wrap .i64 y7) fun r17 H18 =>
  mCopy H18 1 r17 p0 fun x21 H22 =>
  mLoop (fun (s23 : Int) (H26 : PH) (again24 : Int → PH → Prop) =>
  mIf (decide (s23 < (r17.len : Int)))
  (mCut r17 1 s23 (r17.len : Int) fun r29 =>
  mCut r17 1 0 s23 fun r31 =>
  mCopy H26 1 r29 r31 fun x32 H33 =>
  again24 (IntKind.wrap .i64 (s23 + x32)) H33)
  (Q r17 H26))
  x21 H22)
  fun j14 =>
  mIf s9
  (False)
  (j14 () H11))
  fun j10 =>
  mIf (decide (0 < y6))
  (j10 true H5)
  (j10 (decide (9223372036854775807 < y7)) H5))
  fun j2 =>
  mIf (decide (p1 < 0))
  (False)
  (j2 () H)

set_option maxRecDepth 20000 in
set_option maxHeartbeats 1000000 in
theorem slices_Repeat_Slint_int_s (p0 : Sl) (p1 : Int) (H : PH) (Q : Sl → PH → Prop) (h : slices_Repeat_Slint_int p0 p1 H Q) :
    CallsH Try.prog 27 #[Sl.v p0, .int .i64 p1] H (fun v H' => ∃ (r0 : Sl), v = Sl.v r0 ∧ Q r0 H') := by
  unfold slices_Repeat_Slint_int at h
  refine callsH_of_go Try.func27 rfl Try.ntmps27 (Nat.le_of_ble_eq_true rfl) ?_
  refine Go.seq ?_
  refine Go.region rfl ?_
  refine GoOps.q (v := Sl.v Sl.nil) rfl rfl (by decide) (q_assign rfl) ?_
  refine GoOps.nil ?_
  refine Go.seq ?_
  refine Go.seq ?_
  refine Go.region rfl ?_
  refine GoOps.q (v := .int .i64 p1) rfl rfl (by decide) (q_move rfl) ?_
  refine GoOps.q (v := .bool (decide (p1 < 0))) rfl rfl (by decide) (q_lss rfl rfl) ?_
  refine GoOps.nil ?_
  refine join_go 1 (fun ρ (s1 : Unit) => ρ 0 = Sl.v p0 ∧ ρ 1 = .int .i64 p1) h ?_ ?_ <;> clear h
  · intro s1 H3 ρ h hE
    obtain ⟨e4_0, e4_1⟩ := hE
    refine Go.seq ?_
    refine Go.region rfl ?_
    refine GoOps.q (v := Sl.v p0) rfl rfl (by decide) (q_move e4_0) ?_
    refine GoOps.q (v := .int .i64 (p0.len : Int)) rfl rfl (by decide) (q_len Try.underlying31 rfl (ls1 rfl)) ?_
    refine GoOps.q (v := .int .u64 (IntKind.wrap .u64 (p0.len : Int))) rfl rfl (by decide) (q_conv Try.underlying3 Try.underlying69 rfl) ?_
    refine GoOps.q (v := .int .i64 p1) rfl rfl (by decide) (q_move e4_1) ?_
    refine GoOps.q (v := .int .u64 (IntKind.wrap .u64 p1)) rfl rfl (by decide) (q_conv Try.underlying3 Try.underlying69 rfl) ?_
    refine call_dst rfl (by decide) body37 (bits_Mul_s _ _ _ _ h) rfl ?_
    rintro _ H5 ⟨y6, y7, rfl, h⟩
    refine GoOps.q (v := .tuple #[.int .u64 y6, .int .u64 y7]) rfl rfl (by decide) (q_move rfl) ?_
    refine GoOps.q (v := .int .u64 y6) rfl rfl (by decide) (q_extract rfl rfl) ?_
    refine GoOps.q (v := .int .u64 y7) rfl rfl (by decide) (q_extract rfl rfl) ?_
    refine GoOps.q (v := .int .u64 y6) rfl rfl (by decide) (q_assign rfl) ?_
    refine GoOps.q (v := .int .u64 y7) rfl rfl (by decide) (q_assign rfl) ?_
    refine GoOps.nil ?_
    refine Go.seq ?_
    refine Go.seq ?_
    refine Go.region rfl ?_
    refine GoOps.q (v := .int .u64 y6) rfl rfl (by decide) (q_move rfl) ?_
    refine GoOps.q (v := .bool (decide (0 < y6))) rfl rfl (by decide) (q_gtr rfl rfl) ?_
    refine GoOps.q (v := .bool (decide (0 < y6))) rfl rfl (by decide) (q_move rfl) ?_
    refine join_ops 3 (fun ρ (s9 : Bool) => ρ 0 = Sl.v p0 ∧ ρ 6 = .int .u64 y7 ∧ ρ 26 = .bool s9) h ?_ ?_ <;> clear h
    · intro s9 H11 ρ h hE
      obtain ⟨e12_0, e12_6, e12_26⟩ := hE
      refine GoOps.nil ?_
      refine join_go 1 (fun ρ (s13 : Unit) => ρ 0 = Sl.v p0 ∧ ρ 6 = .int .u64 y7) h ?_ ?_ <;> clear h
      · intro s13 H15 ρ h hE
        obtain ⟨e16_0, e16_6⟩ := hE
        refine Go.seq ?_
        refine Go.region rfl ?_
        refine GoOps.q (v := .int .u64 y7) rfl rfl (by decide) (q_move e16_6) ?_
        refine GoOps.q (v := .int .i64 (IntKind.wrap .i64 y7)) rfl rfl (by decide) (q_conv Try.underlying69 Try.underlying3 rfl) ?_
        obtain ⟨hm20, h⟩ := h
        refine op_dst rfl rfl (by decide) (do_mk (zs := [.int .i64 0]) slice31 bytes3 (by decide) zero3 rfl rfl (by decide) rfl rfl hm20 fun r17 H18 hb19 => ?_) 
        have h := h r17 H18 hb19
        refine GoOps.q (v := Sl.v r17) rfl rfl (by decide) (q_assign rfl) ?_
        refine GoOps.nil ?_
        refine Go.seq ?_
        refine Go.region rfl ?_
        refine GoOps.q (v := Sl.v r17) rfl rfl (by decide) (q_move rfl) ?_
        refine GoOps.q (v := Sl.v p0) rfl rfl (by decide) (q_move e16_0) ?_
        refine op_dst rfl rfl (by decide) (do_copy slice31 rfl rfl h fun x21 H22 h => ?_) 
        refine GoOps.q (v := .int .i64 x21) rfl rfl (by decide) (q_assign rfl) ?_
        refine GoOps.nil ?_
        refine Go.seq ?_
        refine Go.block ?_
        refine loop_go (fun ρ (s23 : Int) => ρ 7 = Sl.v r17 ∧ ρ 8 = .int .i64 s23) h ⟨rfl, rfl⟩ ?_
        clear h
        intro ρ s23 H26 again24 hE h hagain24
        obtain ⟨e25_7, e25_8⟩ := hE
        refine Go.seq ?_
        refine Go.seq ?_
        refine Go.region rfl ?_
        refine GoOps.q (v := .int .i64 s23) rfl rfl (by decide) (q_move e25_8) ?_
        refine GoOps.q (v := Sl.v r17) rfl rfl (by decide) (q_move e25_7) ?_
        refine GoOps.q (v := .int .i64 (r17.len : Int)) rfl rfl (by decide) (q_len Try.underlying31 rfl (ls1 rfl)) ?_
        refine GoOps.q (v := .bool (decide (s23 < (r17.len : Int)))) rfl rfl (by decide) (q_lss rfl rfl) ?_
        refine GoOps.nil ?_
        rcases bor (decide (s23 < (r17.len : Int))) with hc27 | hc27
        · have h := h.1 hc27
          refine Go.condT (btT rfl hc27) ?_
          refine Go.skip ?_
          refine Go.block ?_
          refine Go.draw mixed ?_
          refine plan_pure (i := 0) (d := 38) (S2 := 1) (v := .int .i64 s23) rfl (by decide +kernel) rfl (q_move e25_8) ?_
          refine plan_pure (i := 1) (d := 39) (S2 := 3) (v := Sl.v r17) rfl (by decide +kernel) rfl (q_move e25_7) ?_
          refine plan_pure (i := 2) (d := 40) (S2 := 7) (v := .int .i64 s23) rfl (by decide +kernel) rfl (q_move e25_8) ?_
          obtain ⟨r29, hm28, h⟩ := h
          refine plan_pure (i := 3) (d := 41) (S2 := 15) (v := Sl.v r29) rfl (by decide +kernel) rfl (q_cut slice31 hm28 rfl ⟨_, rfl⟩ rfl) ?_
          refine plan_pure (i := 4) (d := 42) (S2 := 31) (v := Sl.v r17) rfl (by decide +kernel) rfl (q_move e25_7) ?_
          refine plan_pure (i := 5) (d := 43) (S2 := 63) (v := .int .i64 s23) rfl (by decide +kernel) rfl (q_move e25_8) ?_
          obtain ⟨r31, hm30, h⟩ := h
          refine plan_pure (i := 6) (d := 44) (S2 := 127) (v := Sl.v r31) rfl (by decide +kernel) rfl (q_cut slice31 hm30 rfl rfl ⟨_, rfl⟩) ?_
          refine plan_one (j := 7) (S2 := 255) (by decide +kernel) rfl (by decide) rfl ?_
          refine do_copy slice31 rfl rfl h fun x32 H33 h => ?_
          refine ⟨_, rfl, ?_⟩
          refine plan_pure (i := 8) (d := 46) (S2 := 511) (v := .int .i64 (IntKind.wrap .i64 (s23 + x32))) rfl (by decide +kernel) rfl (q_add rfl rfl) ?_
          refine plan_one (j := 9) (S2 := 1023) (by decide +kernel) rfl (by decide) rfl ?_
          refine OpQ.do (v := .int .i64 (IntKind.wrap .i64 (s23 + x32))) (q_assign rfl) ⟨_, rfl, ?_⟩
          refine plan_done (by decide +kernel) ?_
          refine Go.inBlock ?_
          exact hagain24 _ _ _ h ⟨e25_7, rfl⟩
        · have h := h.2 hc27
          refine Go.condF (btF rfl hc27) ?_
          refine Go.exit rfl ?_
          refine Go.seq ?_
          refine Go.region rfl ?_
          refine GoOps.q (v := Sl.v r17) rfl rfl (by decide) (q_move e25_7) ?_
          refine GoOps.q (v := Sl.v r17) rfl rfl (by decide) (q_assign rfl) ?_
          refine GoOps.nil ?_
          exact Go.ret ⟨.inl rfl, _, _, DOk.nil, (resOk1 Try.results27 rfl), ⟨_, rfl, h⟩⟩
      · intro j14 hj14 h
        rcases bor s9 with hc34 | hc34
        · have h := h.1 hc34
          refine Go.condT (btT e12_26 hc34) ?_
          refine Go.region rfl ?_
          exact h.elim
        · have h := h.2 hc34
          refine Go.condF (btF e12_26 hc34) ?_
          refine Go.skip ?_
          exact hj14 _ _ _ h ⟨e12_0, e12_6⟩
    · intro j10 hj10 h
      rcases bor (decide (0 < y6)) with hc8 | hc8
      · have h := h.1 hc8
        refine no_dst (want_no rfl rfl rfl hc8) rfl (by decide) ?_
        refine no_dst (want_no rfl rfl rfl hc8) rfl (by decide) ?_
        refine GoOps.q (v := .bool true) rfl rfl (by decide) (q_pickT (btT rfl hc8) rfl) ?_
        exact hj10 true _ _ h (by exact ⟨e4_0, rfl, rfl⟩)
      · have h := h.2 hc8
        refine GoOps.q (v := .int .u64 y7) (want_yes rfl rfl rfl hc8) rfl (by decide) (q_move rfl) ?_
        refine GoOps.q (v := .bool (decide (9223372036854775807 < y7))) (want_yes rfl rfl rfl hc8) rfl (by decide) (q_gtr rfl rfl) ?_
        refine GoOps.q (v := .bool (decide (9223372036854775807 < y7))) rfl rfl (by decide) (q_pickF (btF rfl hc8) rfl) ?_
        exact hj10 (decide (9223372036854775807 < y7)) _ _ h (by exact ⟨e4_0, rfl, rfl⟩)
  · intro j2 hj2 h
    rcases bor (decide (p1 < 0)) with hc35 | hc35
    · have h := h.1 hc35
      refine Go.condT (btT rfl hc35) ?_
      refine Go.region rfl ?_
      exact h.elim
    · have h := h.2 hc35
      refine Go.condF (btF rfl hc35) ?_
      refine Go.skip ?_
      exact hj2 _ _ _ h ⟨rfl, rfl⟩

/-- keelson.paged.New[int] -/
def paged_New_int (p0 : Int) (p1 : Int) (p2 : Int) (H : PH) (Q : Option Addr → PH → Prop) : Prop :=
  mJoin (fun (s2 : Bool) (H4 : PH) =>
  mJoin (fun (s7 : Bool) (H9 : PH) =>
  mJoin (fun (s12 : Bool) (H14 : PH) =>
  mIf s12
  (Q none H14)
  (mNe p1 <|
  mBoth (MkOk 1 (IntKind.wrap .i64 (Int.tdiv (IntKind.wrap .i64 ((IntKind.wrap .i64 (p0 + p1)) - 1)) p1)) (IntKind.wrap .i64 (Int.tdiv (IntKind.wrap .i64 ((IntKind.wrap .i64 (p0 + p1)) - 1)) p1))) <|
  mNewS H14 (row [.int .i64 p2] 3) 1 fun r19 H20 =>
  slices_Repeat_Slint_int r19 p0 H20 fun y23 H22 =>
  mNewSI H22 (row (zeros (IntKind.wrap .i64 (Int.tdiv (IntKind.wrap .i64 ((IntKind.wrap .i64 (p0 + p1)) - 1)) p1) : Int).toNat [.bool false]) 4) (IntKind.wrap .i64 (Int.tdiv (IntKind.wrap .i64 ((IntKind.wrap .i64 (p0 + p1)) - 1)) p1)) (IntKind.wrap .i64 (Int.tdiv (IntKind.wrap .i64 ((IntKind.wrap .i64 (p0 + p1)) - 1)) p1)) fun r24 H25 =>
  mNew H25 (row [Sl.v y23, .int .i64 p1, Sl.v r24] 60) fun a27 H28 =>
  Q (some a27) H28))
  fun j13 =>
  mIf s7
  (j13 true H9)
  (j13 (decide (65536 < p1)) H9))
  fun j8 =>
  mIf s2
  (j8 true H4)
  (j8 (decide (p1 < 1)) H4))
  fun j3 =>
  mIf (decide (p0 < 1))
  (j3 true H)
  (j3 (decide (65536 < p0)) H)

set_option maxRecDepth 20000 in
set_option maxHeartbeats 1000000 in
theorem paged_New_int_s (p0 : Int) (p1 : Int) (p2 : Int) (H : PH) (Q : Option Addr → PH → Prop) (h : paged_New_int p0 p1 p2 H Q) :
    CallsH Try.prog 8 #[.int .i64 p0, .int .i64 p1, .int .i64 p2] H (fun v H' => ∃ (r0 : Option Addr), v = .pointer r0 ∧ Q r0 H') := by
  unfold paged_New_int at h
  refine callsH_of_go Try.func8 rfl Try.ntmps8 (Nat.le_of_ble_eq_true rfl) ?_
  refine Go.seq ?_
  refine Go.region rfl ?_
  refine GoOps.q (v := .pointer none) rfl rfl (by decide) (q_assign rfl) ?_
  refine GoOps.nil ?_
  refine Go.seq ?_
  refine Go.seq ?_
  refine Go.region rfl ?_
  refine GoOps.q (v := .int .i64 p0) rfl rfl (by decide) (q_move rfl) ?_
  refine GoOps.q (v := .bool (decide (p0 < 1))) rfl rfl (by decide) (q_lss rfl rfl) ?_
  refine GoOps.q (v := .bool (decide (p0 < 1))) rfl rfl (by decide) (q_move rfl) ?_
  refine join_ops 3 (fun ρ (s2 : Bool) => ρ 0 = .int .i64 p0 ∧ ρ 1 = .int .i64 p1 ∧ ρ 2 = .int .i64 p2 ∧ ρ 12 = .bool s2) h ?_ ?_ <;> clear h
  · intro s2 H4 ρ h hE
    obtain ⟨e5_0, e5_1, e5_2, e5_12⟩ := hE
    refine GoOps.q (v := .bool s2) rfl rfl (by decide) (q_move e5_12) ?_
    refine join_ops 3 (fun ρ (s7 : Bool) => ρ 0 = .int .i64 p0 ∧ ρ 1 = .int .i64 p1 ∧ ρ 2 = .int .i64 p2 ∧ ρ 16 = .bool s7) h ?_ ?_ <;> clear h
    · intro s7 H9 ρ h hE
      obtain ⟨e10_0, e10_1, e10_2, e10_16⟩ := hE
      refine GoOps.q (v := .bool s7) rfl rfl (by decide) (q_move e10_16) ?_
      refine join_ops 3 (fun ρ (s12 : Bool) => ρ 0 = .int .i64 p0 ∧ ρ 1 = .int .i64 p1 ∧ ρ 2 = .int .i64 p2 ∧ ρ 20 = .bool s12) h ?_ ?_ <;> clear h
      · intro s12 H14 ρ h hE
        obtain ⟨e15_0, e15_1, e15_2, e15_20⟩ := hE
        refine GoOps.nil ?_
        rcases bor s12 with hc16 | hc16
        · have h := h.1 hc16
          refine Go.condT (btT e15_20 hc16) ?_
          refine Go.seq ?_
          refine Go.region rfl ?_
          refine GoOps.q (v := .pointer none) rfl rfl (by decide) (q_assign rfl) ?_
          refine GoOps.nil ?_
          exact Go.ret ⟨.inl rfl, _, _, DOk.nil, (resOk1 Try.results8 rfl), ⟨_, rfl, h⟩⟩
        · have h := h.2 hc16
          refine Go.condF (btF e15_20 hc16) ?_
          refine Go.skip ?_
          refine Go.seq ?_
          refine Go.draw mixed ?_
          refine plan_pure (i := 0) (d := 21) (S2 := 1) (v := .int .i64 p2) rfl (by decide +kernel) rfl (q_move e15_2) ?_
          refine plan_pure (i := 2) (d := 23) (S2 := 5) (v := .int .i64 p0) rfl (by decide +kernel) rfl (q_move e15_0) ?_
          refine plan_pure (i := 4) (d := 25) (S2 := 21) (v := .int .i64 p1) rfl (by decide +kernel) rfl (q_move e15_1) ?_
          refine plan_pure (i := 5) (d := 26) (S2 := 53) (v := .int .i64 p0) rfl (by decide +kernel) rfl (q_move e15_0) ?_
          refine plan_pure (i := 6) (d := 27) (S2 := 117) (v := .int .i64 p1) rfl (by decide +kernel) rfl (q_move e15_1) ?_
          refine plan_pure (i := 7) (d := 28) (S2 := 245) (v := .int .i64 (IntKind.wrap .i64 (p0 + p1))) rfl (by decide +kernel) rfl (q_add rfl rfl) ?_
          refine plan_pure (i := 8) (d := 29) (S2 := 501) (v := .int .i64 (IntKind.wrap .i64 ((IntKind.wrap .i64 (p0 + p1)) - 1))) rfl (by decide +kernel) rfl (q_sub rfl rfl) ?_
          refine plan_pure (i := 9) (d := 30) (S2 := 1013) (v := .int .i64 p1) rfl (by decide +kernel) rfl (q_move e15_1) ?_
          obtain ⟨hn17, h⟩ := h
          refine plan_pure (i := 10) (d := 31) (S2 := 2037) (v := .int .i64 (IntKind.wrap .i64 (Int.tdiv (IntKind.wrap .i64 ((IntKind.wrap .i64 (p0 + p1)) - 1)) p1))) rfl (by decide +kernel) rfl (q_quo hn17 rfl rfl) ?_
          obtain ⟨hm18, h⟩ := h
          refine plan_step (R := [1, 11]) (by decide +kernel) ⟨?_, ?_, trivial⟩
          · refine pstep_yes (S2 := 2039) rfl (by decide +kernel) (by decide) rfl ?_
            refine do_bs (ps := [(0, .int .i64 p2)]) (zs := [.int .i64 0]) (cs := [.int .i64 p2]) slice31 zero3 rfl rfl (by decide) (by decide) rfl rfl fun r19 H20 hb21 => ?_
            have h := h r19 H20 hb21
            refine ⟨_, rfl, ?_⟩
            refine plan_step (R := [3, 11]) (by decide +kernel) ⟨?_, ?_, trivial⟩
            · refine pstep_yes (S2 := 2047) rfl (by decide +kernel) (by decide) rfl ?_
              refine do_call2 body27 (slices_Repeat_Slint_int_s _ _ _ _ h) rfl ?_
              rintro _ H22 ⟨y23, rfl, h⟩
              refine ⟨_, rfl, ?_⟩
              refine plan_one (j := 11) (S2 := 4095) (by decide +kernel) rfl (by decide) rfl ?_
              refine do_mk (zs := [.bool false]) slice53 bytes4 (by decide) zero4 rfl rfl (by decide) rfl rfl hm18 fun r24 H25 hb26 => ?_
              have h := h r24 H25 hb26
              refine ⟨_, rfl, ?_⟩
              refine plan_pure (i := 12) (d := 33) (S2 := 8191) (v := .agg ([Sl.v y23, .int .i64 p1, Sl.v r24] : List Value).toArray) rfl (by decide +kernel) rfl (q_build (ps := [(0, Sl.v y23), (1, .int .i64 p1), (2, Sl.v r24)]) (cs := [Sl.v y23, .int .i64 p1, Sl.v r24]) places60 zero60 rfl rfl rfl) ?_
              refine plan_one (j := 13) (S2 := 16383) (by decide +kernel) rfl (by decide) rfl ?_
              refine do_newBox (cs := [Sl.v y23, .int .i64 p1, Sl.v r24]) rfl rfl fun a27 H28 hb29 => ?_
              have h := h a27 H28 hb29
              refine ⟨_, rfl, ?_⟩
              refine plan_pure (i := 14) (d := 6) (S2 := 32767) (v := .pointer (some a27)) rfl (by decide +kernel) rfl (q_assign rfl) ?_
              refine plan_done (by decide +kernel) ?_
              exact Go.ret ⟨.inl rfl, _, _, DOk.nil, (resOk1 Try.results8 rfl), ⟨_, rfl, h⟩⟩
            · refine pstep_yes (S2 := 4087) rfl (by decide +kernel) (by decide) rfl ?_
              refine do_mkT (zs := [.bool false]) slice53 bytes4 (by decide) zero4 rfl rfl (by decide) rfl rfl hm18 fun b31 r30 hHb31 hTb31 hrb31 => ?_
              refine ⟨_, rfl, ?_⟩
              refine plan_one (j := 3) (S2 := 4095) (by decide +kernel) rfl (by decide) rfl ?_
              refine do_call2 body27 (slices_Repeat_Slint_int_s _ _ _ _ h) rfl ?_
              rintro _ H32 ⟨y33, rfl, h⟩
              refine ⟨_, rfl, ?_⟩
              refine plan_commit hTb31 fun hh35 => ?_
              have h := h r30 _ ⟨b31, hh35, hrb31, rfl⟩
              refine plan_pure (i := 12) (d := 33) (S2 := 8191) (v := .agg ([Sl.v y33, .int .i64 p1, Sl.v r30] : List Value).toArray) rfl (by decide +kernel) rfl (q_build (ps := [(0, Sl.v y33), (1, .int .i64 p1), (2, Sl.v r30)]) (cs := [Sl.v y33, .int .i64 p1, Sl.v r30]) places60 zero60 rfl rfl rfl) ?_
              refine plan_one (j := 13) (S2 := 16383) (by decide +kernel) rfl (by decide) rfl ?_
              refine do_newBox (cs := [Sl.v y33, .int .i64 p1, Sl.v r30]) rfl rfl fun a36 H37 hb38 => ?_
              have h := h a36 H37 hb38
              refine ⟨_, rfl, ?_⟩
              refine plan_pure (i := 14) (d := 6) (S2 := 32767) (v := .pointer (some a36)) rfl (by decide +kernel) rfl (q_assign rfl) ?_
              refine plan_done (by decide +kernel) ?_
              exact Go.ret ⟨.inl rfl, _, _, DOk.nil, (resOk1 Try.results8 rfl), ⟨_, rfl, h⟩⟩
          · refine pstep_yes (S2 := 4085) rfl (by decide +kernel) (by decide) rfl ?_
            refine do_mkT (zs := [.bool false]) slice53 bytes4 (by decide) zero4 rfl rfl (by decide) rfl rfl hm18 fun b40 r39 hHb40 hTb40 hrb40 => ?_
            refine ⟨_, rfl, ?_⟩
            refine plan_one (j := 1) (S2 := 4087) (by decide +kernel) rfl (by decide) rfl ?_
            refine do_bs (ps := [(0, .int .i64 p2)]) (zs := [.int .i64 0]) (cs := [.int .i64 p2]) slice31 zero3 rfl rfl (by decide) (by decide) rfl rfl fun r41 H42 hb43 => ?_
            have h := h r41 H42 hb43
            refine ⟨_, rfl, ?_⟩
            refine plan_one (j := 3) (S2 := 4095) (by decide +kernel) rfl (by decide) rfl ?_
            refine do_call2 body27 (slices_Repeat_Slint_int_s _ _ _ _ h) rfl ?_
            rintro _ H44 ⟨y45, rfl, h⟩
            refine ⟨_, rfl, ?_⟩
            refine plan_commit hTb40 fun hh47 => ?_
            have h := h r39 _ ⟨b40, hh47, hrb40, rfl⟩
            refine plan_pure (i := 12) (d := 33) (S2 := 8191) (v := .agg ([Sl.v y45, .int .i64 p1, Sl.v r39] : List Value).toArray) rfl (by decide +kernel) rfl (q_build (ps := [(0, Sl.v y45), (1, .int .i64 p1), (2, Sl.v r39)]) (cs := [Sl.v y45, .int .i64 p1, Sl.v r39]) places60 zero60 rfl rfl rfl) ?_
            refine plan_one (j := 13) (S2 := 16383) (by decide +kernel) rfl (by decide) rfl ?_
            refine do_newBox (cs := [Sl.v y45, .int .i64 p1, Sl.v r39]) rfl rfl fun a48 H49 hb50 => ?_
            have h := h a48 H49 hb50
            refine ⟨_, rfl, ?_⟩
            refine plan_pure (i := 14) (d := 6) (S2 := 32767) (v := .pointer (some a48)) rfl (by decide +kernel) rfl (q_assign rfl) ?_
            refine plan_done (by decide +kernel) ?_
            exact Go.ret ⟨.inl rfl, _, _, DOk.nil, (resOk1 Try.results8 rfl), ⟨_, rfl, h⟩⟩
      · intro j13 hj13 h
        rcases bor s7 with hc11 | hc11
        · have h := h.1 hc11
          refine no_dst (want_no rfl rfl rfl hc11) rfl (by decide) ?_
          refine no_dst (want_no rfl rfl rfl hc11) rfl (by decide) ?_
          refine GoOps.q (v := .bool true) rfl rfl (by decide) (q_pickT (btT rfl hc11) rfl) ?_
          exact hj13 true _ _ h (by exact ⟨e10_0, e10_1, e10_2, rfl⟩)
        · have h := h.2 hc11
          refine GoOps.q (v := .int .i64 p1) (want_yes rfl rfl rfl hc11) rfl (by decide) (q_move e10_1) ?_
          refine GoOps.q (v := .bool (decide (65536 < p1))) (want_yes rfl rfl rfl hc11) rfl (by decide) (q_gtr rfl rfl) ?_
          refine GoOps.q (v := .bool (decide (65536 < p1))) rfl rfl (by decide) (q_pickF (btF rfl hc11) rfl) ?_
          exact hj13 (decide (65536 < p1)) _ _ h (by exact ⟨e10_0, e10_1, e10_2, rfl⟩)
    · intro j8 hj8 h
      rcases bor s2 with hc6 | hc6
      · have h := h.1 hc6
        refine no_dst (want_no rfl rfl rfl hc6) rfl (by decide) ?_
        refine no_dst (want_no rfl rfl rfl hc6) rfl (by decide) ?_
        refine GoOps.q (v := .bool true) rfl rfl (by decide) (q_pickT (btT rfl hc6) rfl) ?_
        exact hj8 true _ _ h (by exact ⟨e5_0, e5_1, e5_2, rfl⟩)
      · have h := h.2 hc6
        refine GoOps.q (v := .int .i64 p1) (want_yes rfl rfl rfl hc6) rfl (by decide) (q_move e5_1) ?_
        refine GoOps.q (v := .bool (decide (p1 < 1))) (want_yes rfl rfl rfl hc6) rfl (by decide) (q_lss rfl rfl) ?_
        refine GoOps.q (v := .bool (decide (p1 < 1))) rfl rfl (by decide) (q_pickF (btF rfl hc6) rfl) ?_
        exact hj8 (decide (p1 < 1)) _ _ h (by exact ⟨e5_0, e5_1, e5_2, rfl⟩)
  · intro j3 hj3 h
    rcases bor (decide (p0 < 1)) with hc1 | hc1
    · have h := h.1 hc1
      refine no_dst (want_no rfl rfl rfl hc1) rfl (by decide) ?_
      refine no_dst (want_no rfl rfl rfl hc1) rfl (by decide) ?_
      refine GoOps.q (v := .bool true) rfl rfl (by decide) (q_pickT (btT rfl hc1) rfl) ?_
      exact hj3 true _ _ h (by exact ⟨rfl, rfl, rfl, rfl⟩)
    · have h := h.2 hc1
      refine GoOps.q (v := .int .i64 p0) (want_yes rfl rfl rfl hc1) rfl (by decide) (q_move rfl) ?_
      refine GoOps.q (v := .bool (decide (65536 < p0))) (want_yes rfl rfl rfl hc1) rfl (by decide) (q_gtr rfl rfl) ?_
      refine GoOps.q (v := .bool (decide (65536 < p0))) rfl rfl (by decide) (q_pickF (btF rfl hc1) rfl) ?_
      exact hj3 (decide (65536 < p0)) _ _ h (by exact ⟨rfl, rfl, rfl, rfl⟩)

/-- (*keelson.paged.Paged[int]).Len -/
def paged_Paged_int_Len (p0 : Option Addr) (H : PH) (Q : Int → PH → Prop) : Prop :=
  mIf (Option.isNone p0)
  (Q 0 H)
  (mNil p0 fun a2 =>
  mLd Sl.v H (a2.add 0) fun x4 =>
  Q (x4.len : Int) H)

set_option maxRecDepth 20000 in
set_option maxHeartbeats 1000000 in
theorem paged_Paged_int_Len_s (p0 : Option Addr) (H : PH) (Q : Int → PH → Prop) (h : paged_Paged_int_Len p0 H Q) :
    CallsH Try.prog 24 #[.pointer p0] H (fun v H' => ∃ (r0 : Int), v = .int .i64 r0 ∧ Q r0 H') := by
  unfold paged_Paged_int_Len at h
  refine callsH_of_go Try.func24 rfl Try.ntmps24 (Nat.le_of_ble_eq_true rfl) ?_
  refine Go.seq ?_
  refine Go.region rfl ?_
  refine GoOps.q (v := .int .i64 0) rfl rfl (by decide) (q_assign rfl) ?_
  refine GoOps.nil ?_
  refine Go.seq ?_
  refine Go.seq ?_
  refine Go.region rfl ?_
  refine GoOps.q (v := .pointer p0) rfl rfl (by decide) (q_move rfl) ?_
  refine GoOps.q (v := .bool (Option.isNone p0)) rfl rfl (by decide) (q_eqlPn Try.underlying24 rfl rfl) ?_
  refine GoOps.nil ?_
  rcases bor (Option.isNone p0) with hc1 | hc1
  · have h := h.1 hc1
    refine Go.condT (btT rfl hc1) ?_
    refine Go.seq ?_
    refine Go.region rfl ?_
    refine GoOps.q (v := .int .i64 0) rfl rfl (by decide) (q_assign rfl) ?_
    refine GoOps.nil ?_
    exact Go.ret ⟨.inl rfl, _, _, DOk.nil, (resOk1 Try.results24 rfl), ⟨_, rfl, h⟩⟩
  · have h := h.2 hc1
    refine Go.condF (btF rfl hc1) ?_
    refine Go.skip ?_
    refine Go.seq ?_
    refine Go.region rfl ?_
    refine GoOps.q (v := .pointer p0) rfl rfl (by decide) (q_move rfl) ?_
    obtain ⟨a2, ha3, h⟩ := h
    refine GoOps.q (v := .pointer (some a2)) rfl rfl (by decide) (q_nilCheck (ptn rfl ha3)) ?_
    refine GoOps.q (v := .pointer (some (a2.add 0))) rfl rfl (by decide) (q_fieldAddr foff60_0 rfl) ?_
    obtain ⟨x4, hx5, h⟩ := h
    refine GoOps.q (v := Sl.v x4) rfl rfl (by decide) (q_load scalar31 rfl hx5) ?_
    refine GoOps.q (v := .int .i64 (x4.len : Int)) rfl rfl (by decide) (q_len Try.underlying31 rfl (ls1 rfl)) ?_
    refine GoOps.q (v := .int .i64 (x4.len : Int)) rfl rfl (by decide) (q_assign rfl) ?_
    refine GoOps.nil ?_
    exact Go.ret ⟨.inl rfl, _, _, DOk.nil, (resOk1 Try.results24 rfl), ⟨_, rfl, h⟩⟩

/-- (*keelson.paged.Paged[int]).Get -/
def paged_Paged_int_Get (p0 : Option Addr) (p1 : Int) (H : PH) (Q : Int → Bool → PH → Prop) : Prop :=
  mJoin (fun (s2 : Bool) (H4 : PH) =>
  mIf s2
  (Q 0 false H4)
  (mNil p0 fun a7 =>
  mLd Sl.v H4 (a7.add 0) fun x9 =>
  mIdx x9 1 p1 fun a11 =>
  mLd (.int .i64) H4 a11 fun x13 =>
  Q x13 true H4))
  fun j3 =>
  mIf (decide (p1 < 0))
  (j3 true H)
  (paged_Paged_int_Len p0 H fun y16 H15 =>
  j3 (decide (y16 ≤ p1)) H15)

set_option maxRecDepth 20000 in
set_option maxHeartbeats 1000000 in
theorem paged_Paged_int_Get_s (p0 : Option Addr) (p1 : Int) (H : PH) (Q : Int → Bool → PH → Prop) (h : paged_Paged_int_Get p0 p1 H Q) :
    CallsH Try.prog 17 #[.pointer p0, .int .i64 p1] H (fun v H' => ∃ (r0 : Int) (r1 : Bool), v = .tuple #[.int .i64 r0, .bool r1] ∧ Q r0 r1 H') := by
  unfold paged_Paged_int_Get at h
  refine callsH_of_go Try.func17 rfl Try.ntmps17 (Nat.le_of_ble_eq_true rfl) ?_
  refine Go.seq ?_
  refine Go.region rfl ?_
  refine GoOps.q (v := .int .i64 0) rfl rfl (by decide) (q_assign rfl) ?_
  refine GoOps.q (v := .bool false) rfl rfl (by decide) (q_assign rfl) ?_
  refine GoOps.nil ?_
  refine Go.seq ?_
  refine Go.seq ?_
  refine Go.region rfl ?_
  refine GoOps.q (v := .int .i64 p1) rfl rfl (by decide) (q_move rfl) ?_
  refine GoOps.q (v := .bool (decide (p1 < 0))) rfl rfl (by decide) (q_lss rfl rfl) ?_
  refine GoOps.q (v := .bool (decide (p1 < 0))) rfl rfl (by decide) (q_move rfl) ?_
  refine join_ops 5 (fun ρ (s2 : Bool) => ρ 0 = .pointer p0 ∧ ρ 1 = .int .i64 p1 ∧ ρ 4 = .int .i64 0 ∧ ρ 13 = .bool s2) h ?_ ?_ <;> clear h
  · intro s2 H4 ρ h hE
    obtain ⟨e5_0, e5_1, e5_4, e5_13⟩ := hE
    refine GoOps.nil ?_
    rcases bor s2 with hc6 | hc6
    · have h := h.1 hc6
      refine Go.condT (btT e5_13 hc6) ?_
      refine Go.seq ?_
      refine Go.region rfl ?_
      refine GoOps.q (v := .int .i64 0) rfl rfl (by decide) (q_move e5_4) ?_
      refine GoOps.q (v := .int .i64 0) rfl rfl (by decide) (q_assign rfl) ?_
      refine GoOps.q (v := .bool false) rfl rfl (by decide) (q_assign rfl) ?_
      refine GoOps.nil ?_
      exact Go.ret ⟨.inl rfl, _, _, DOk.nil, (resOk2 Try.results17 rfl rfl), ⟨_, _, rfl, h⟩⟩
    · have h := h.2 hc6
      refine Go.condF (btF e5_13 hc6) ?_
      refine Go.skip ?_
      refine Go.seq ?_
      refine Go.region rfl ?_
      refine GoOps.q (v := .pointer p0) rfl rfl (by decide) (q_move e5_0) ?_
      obtain ⟨a7, ha8, h⟩ := h
      refine GoOps.q (v := .pointer (some a7)) rfl rfl (by decide) (q_nilCheck (ptn rfl ha8)) ?_
      refine GoOps.q (v := .pointer (some (a7.add 0))) rfl rfl (by decide) (q_fieldAddr foff60_0 rfl) ?_
      obtain ⟨x9, hx10, h⟩ := h
      refine GoOps.q (v := Sl.v x9) rfl rfl (by decide) (q_load scalar31 rfl hx10) ?_
      refine GoOps.q (v := .int .i64 p1) rfl rfl (by decide) (q_move e5_1) ?_
      obtain ⟨a11, ha12, h⟩ := h
      refine GoOps.q (v := .pointer (some a11)) rfl rfl (by decide) (q_idx slice31 ha12 rfl rfl) ?_
      obtain ⟨x13, hx14, h⟩ := h
      refine GoOps.q (v := .int .i64 x13) rfl rfl (by decide) (q_load scalar3 rfl hx14) ?_
      refine GoOps.q (v := .int .i64 x13) rfl rfl (by decide) (q_assign rfl) ?_
      refine GoOps.q (v := .bool true) rfl rfl (by decide) (q_assign rfl) ?_
      refine GoOps.nil ?_
      exact Go.ret ⟨.inl rfl, _, _, DOk.nil, (resOk2 Try.results17 rfl rfl), ⟨_, _, rfl, h⟩⟩
  · intro j3 hj3 h
    rcases bor (decide (p1 < 0)) with hc1 | hc1
    · have h := h.1 hc1
      refine no_dst (want_no rfl rfl rfl hc1) rfl (by decide) ?_
      refine no_dst (want_no rfl rfl rfl hc1) rfl (by decide) ?_
      refine no_dst (want_no rfl rfl rfl hc1) rfl (by decide) ?_
      refine no_dst (want_no rfl rfl rfl hc1) rfl (by decide) ?_
      refine GoOps.q (v := .bool true) rfl rfl (by decide) (q_pickT (btT rfl hc1) rfl) ?_
      exact hj3 true _ _ h (by exact ⟨rfl, rfl, rfl, rfl⟩)
    · have h := h.2 hc1
      refine GoOps.q (v := .int .i64 p1) (want_yes rfl rfl rfl hc1) rfl (by decide) (q_move rfl) ?_
      refine GoOps.q (v := .pointer p0) (want_yes rfl rfl rfl hc1) rfl (by decide) (q_move rfl) ?_
      refine call_dst (want_yes rfl rfl rfl hc1) (by decide) body24 (paged_Paged_int_Len_s _ _ _ h) rfl ?_
      rintro _ H15 ⟨y16, rfl, h⟩
      refine GoOps.q (v := .bool (decide (y16 ≤ p1))) (want_yes rfl rfl rfl hc1) rfl (by decide) (q_geq rfl rfl) ?_
      refine GoOps.q (v := .bool (decide (y16 ≤ p1))) rfl rfl (by decide) (q_pickF (btF rfl hc1) rfl) ?_
      exact hj3 (decide (y16 ≤ p1)) _ _ h (by exact ⟨rfl, rfl, rfl, rfl⟩)

/-- (*keelson.paged.Paged[int]).Set -/
def paged_Paged_int_Set (p0 : Option Addr) (p1 : Int) (p2 : Int) (H : PH) (Q : Bool → PH → Prop) : Prop :=
  paged_Paged_int_Get p0 p1 H fun y2 y3 H1 =>
  mJoin (fun (s5 : Bool) (H7 : PH) =>
  mJoin (fun (s9 : Unit) (H11 : PH) =>
  Q y3 H11)
  fun j10 =>
  mIf s5
  (mNil p0 fun a14 =>
  mLd Sl.v H7 (a14.add 0) fun x16 =>
  mNil p0 fun a18 =>
  mLd Sl.v H7 (a18.add 2) fun x20 =>
  mNil p0 fun a22 =>
  mLd (.int .i64) H7 (a22.add 1) fun x24 =>
  mNe x24 <|
  mIdx x16 1 p1 fun a27 =>
  mSt H7 a27 ([.int .i64 p2]) fun H29 =>
  mIdx x20 1 (IntKind.wrap .i64 (Int.tdiv p1 x24)) fun a31 =>
  mSt H29 a31 ([.bool true]) fun H33 =>
  j10 () H33)
  (j10 () H7))
  fun j6 =>
  mIf y3
  (j6 (y2 != p2) H1)
  (j6 false H1)

set_option maxRecDepth 20000 in
set_option maxHeartbeats 1000000 in
theorem paged_Paged_int_Set_s (p0 : Option Addr) (p1 : Int) (p2 : Int) (H : PH) (Q : Bool → PH → Prop) (h : paged_Paged_int_Set p0 p1 p2 H Q) :
    CallsH Try.prog 10 #[.pointer p0, .int .i64 p1, .int .i64 p2] H (fun v H' => ∃ (r0 : Bool), v = .bool r0 ∧ Q r0 H') := by
  unfold paged_Paged_int_Set at h
  refine callsH_of_go Try.func10 rfl Try.ntmps10 (Nat.le_of_ble_eq_true rfl) ?_
  refine Go.seq ?_
  refine Go.region rfl ?_
  refine GoOps.q (v := .bool false) rfl rfl (by decide) (q_assign rfl) ?_
  refine GoOps.nil ?_
  refine Go.seq ?_
  refine Go.region rfl ?_
  refine GoOps.q (v := .pointer p0) rfl rfl (by decide) (q_move rfl) ?_
  refine GoOps.q (v := .int .i64 p1) rfl rfl (by decide) (q_move rfl) ?_
  refine call_dst rfl (by decide) body17 (paged_Paged_int_Get_s _ _ _ _ h) rfl ?_
  rintro _ H1 ⟨y2, y3, rfl, h⟩
  refine GoOps.q (v := .tuple #[.int .i64 y2, .bool y3]) rfl rfl (by decide) (q_move rfl) ?_
  refine GoOps.q (v := .int .i64 y2) rfl rfl (by decide) (q_extract rfl rfl) ?_
  refine GoOps.q (v := .bool y3) rfl rfl (by decide) (q_extract rfl rfl) ?_
  refine GoOps.q (v := .int .i64 y2) rfl rfl (by decide) (q_assign rfl) ?_
  refine GoOps.q (v := .bool y3) rfl rfl (by decide) (q_assign rfl) ?_
  refine GoOps.nil ?_
  refine Go.seq ?_
  refine Go.seq ?_
  refine Go.region rfl ?_
  refine GoOps.q (v := .bool y3) rfl rfl (by decide) (q_move rfl) ?_
  refine GoOps.q (v := .bool y3) rfl rfl (by decide) (q_move rfl) ?_
  refine join_ops 4 (fun ρ (s5 : Bool) => ρ 0 = .pointer p0 ∧ ρ 1 = .int .i64 p1 ∧ ρ 2 = .int .i64 p2 ∧ ρ 8 = .bool y3 ∧ ρ 20 = .bool s5) h ?_ ?_ <;> clear h
  · intro s5 H7 ρ h hE
    obtain ⟨e8_0, e8_1, e8_2, e8_8, e8_20⟩ := hE
    refine GoOps.nil ?_
    refine join_go 1 (fun ρ (s9 : Unit) => ρ 8 = .bool y3) h ?_ ?_ <;> clear h
    · intro s9 H11 ρ h hE
      have e12_8 := hE
      refine Go.seq ?_
      refine Go.region rfl ?_
      refine GoOps.q (v := .bool y3) rfl rfl (by decide) (q_move e12_8) ?_
      refine GoOps.q (v := .bool y3) rfl rfl (by decide) (q_assign rfl) ?_
      refine GoOps.nil ?_
      exact Go.ret ⟨.inl rfl, _, _, DOk.nil, (resOk1 Try.results10 rfl), ⟨_, rfl, h⟩⟩
    · intro j10 hj10 h
      rcases bor s5 with hc13 | hc13
      · have h := h.1 hc13
        refine Go.condT (btT e8_20 hc13) ?_
        refine Go.draw mixed ?_
        refine plan_pure (i := 0) (d := 21) (S2 := 1) (v := .pointer p0) rfl (by decide +kernel) rfl (q_move e8_0) ?_
        obtain ⟨a14, ha15, h⟩ := h
        refine plan_pure (i := 1) (d := 22) (S2 := 3) (v := .pointer (some a14)) rfl (by decide +kernel) rfl (q_nilCheck (ptn rfl ha15)) ?_
        refine plan_pure (i := 2) (d := 23) (S2 := 7) (v := .pointer (some (a14.add 0))) rfl (by decide +kernel) rfl (q_fieldAddr foff60_0 rfl) ?_
        obtain ⟨x16, hx17, h⟩ := h
        refine plan_load (i := 3) (d := 24) (S2 := 15) (v := Sl.v x16) rfl (by decide +kernel) rfl (q_load scalar31 rfl hx17) ?_
        refine plan_pure (i := 4) (d := 25) (S2 := 31) (v := .int .i64 p1) rfl (by decide +kernel) rfl (q_move e8_1) ?_
        refine plan_pure (i := 5) (d := 26) (S2 := 63) (v := .pointer p0) rfl (by decide +kernel) rfl (q_move e8_0) ?_
        obtain ⟨a18, ha19, h⟩ := h
        refine plan_pure (i := 6) (d := 27) (S2 := 127) (v := .pointer (some a18)) rfl (by decide +kernel) rfl (q_nilCheck (ptn rfl ha19)) ?_
        refine plan_pure (i := 7) (d := 28) (S2 := 255) (v := .pointer (some (a18.add 2))) rfl (by decide +kernel) rfl (q_fieldAddr foff60_2 rfl) ?_
        obtain ⟨x20, hx21, h⟩ := h
        refine plan_load (i := 8) (d := 29) (S2 := 511) (v := Sl.v x20) rfl (by decide +kernel) rfl (q_load scalar53 rfl hx21) ?_
        refine plan_pure (i := 9) (d := 30) (S2 := 1023) (v := .int .i64 p1) rfl (by decide +kernel) rfl (q_move e8_1) ?_
        refine plan_pure (i := 10) (d := 31) (S2 := 2047) (v := .pointer p0) rfl (by decide +kernel) rfl (q_move e8_0) ?_
        obtain ⟨a22, ha23, h⟩ := h
        refine plan_pure (i := 11) (d := 32) (S2 := 4095) (v := .pointer (some a22)) rfl (by decide +kernel) rfl (q_nilCheck (ptn rfl ha23)) ?_
        refine plan_pure (i := 12) (d := 33) (S2 := 8191) (v := .pointer (some (a22.add 1))) rfl (by decide +kernel) rfl (q_fieldAddr foff60_1 rfl) ?_
        obtain ⟨x24, hx25, h⟩ := h
        refine plan_load (i := 13) (d := 34) (S2 := 16383) (v := .int .i64 x24) rfl (by decide +kernel) rfl (q_load scalar3 rfl hx25) ?_
        obtain ⟨hn26, h⟩ := h
        refine plan_pure (i := 14) (d := 35) (S2 := 32767) (v := .int .i64 (IntKind.wrap .i64 (Int.tdiv p1 x24))) rfl (by decide +kernel) rfl (q_quo hn26 rfl rfl) ?_
        refine plan_pure (i := 15) (d := 36) (S2 := 65535) (v := .int .i64 p2) rfl (by decide +kernel) rfl (q_move e8_2) ?_
        obtain ⟨a27, ha28, h⟩ := h
        refine plan_pure (i := 16) (d := 37) (S2 := 131071) (v := .pointer (some a27)) rfl (by decide +kernel) rfl (q_idx slice31 ha28 rfl rfl) ?_
        refine plan_one (j := 17) (S2 := 262143) (by decide +kernel) rfl (by decide) rfl ?_
        obtain ⟨q30b, q30o, q30c, q30e, hq30a, hq30b, hq30l, hq30v, h⟩ := h
        refine do_store (vs := [.int .i64 p2]) size3 (pta rfl hq30a) rfl rfl rfl hq30v hq30b hq30l ?_
        refine ⟨_, (.inl ⟨⟨[17], by decide +kernel, rfl⟩, .inl ⟨⟨[17], by decide +kernel, rfl⟩, .inl ⟨⟨[17], by decide +kernel, rfl⟩, rfl⟩⟩⟩), ?_⟩
        obtain ⟨a31, ha32, h⟩ := h
        refine plan_pure (i := 18) (d := 38) (S2 := 524287) (v := .pointer (some a31)) rfl (by decide +kernel) rfl (q_idx slice53 ha32 rfl rfl) ?_
        refine plan_one (j := 19) (S2 := 1048575) (by decide +kernel) rfl (by decide) rfl ?_
        obtain ⟨q34b, q34o, q34c, q34e, hq34a, hq34b, hq34l, hq34v, h⟩ := h
        refine do_store (vs := [.bool true]) size4 (pta rfl hq34a) rfl rfl rfl hq34v hq34b hq34l ?_
        refine ⟨_, rfl, ?_⟩
        refine plan_done (by decide +kernel) ?_
        exact hj10 _ _ _ h e8_8
      · have h := h.2 hc13
        refine Go.condF (btF e8_20 hc13) ?_
        refine Go.skip ?_
        exact hj10 _ _ _ h e8_8
  · intro j6 hj6 h
    rcases bor y3 with hc4 | hc4
    · have h := h.1 hc4
      refine GoOps.q (v := .int .i64 y2) (want_yes rfl rfl rfl hc4) rfl (by decide) (q_move rfl) ?_
      refine GoOps.q (v := .int .i64 p2) (want_yes rfl rfl rfl hc4) rfl (by decide) (q_move rfl) ?_
      refine GoOps.q (v := .bool (y2 != p2)) (want_yes rfl rfl rfl hc4) rfl (by decide) (q_neq rfl rfl) ?_
      refine GoOps.q (v := .bool (y2 != p2)) rfl rfl (by decide) (q_pickT (btT rfl hc4) rfl) ?_
      exact hj6 (y2 != p2) _ _ h (by exact ⟨rfl, rfl, rfl, rfl, rfl⟩)
    · have h := h.2 hc4
      refine no_dst (want_no rfl rfl rfl hc4) rfl (by decide) ?_
      refine no_dst (want_no rfl rfl rfl hc4) rfl (by decide) ?_
      refine no_dst (want_no rfl rfl rfl hc4) rfl (by decide) ?_
      refine GoOps.q (v := .bool false) rfl rfl (by decide) (q_pickF (btF rfl hc4) rfl) ?_
      exact hj6 false _ _ h (by exact ⟨rfl, rfl, rfl, rfl, rfl⟩)

/-- (*keelson.paged.Paged[int]).Pages -/
def paged_Paged_int_Pages (p0 : Option Addr) (H : PH) (Q : Int → PH → Prop) : Prop :=
  mIf (Option.isNone p0)
  (Q 0 H)
  (mNil p0 fun a2 =>
  mLd Sl.v H (a2.add 2) fun x4 =>
  Q (x4.len : Int) H)

set_option maxRecDepth 20000 in
set_option maxHeartbeats 1000000 in
theorem paged_Paged_int_Pages_s (p0 : Option Addr) (H : PH) (Q : Int → PH → Prop) (h : paged_Paged_int_Pages p0 H Q) :
    CallsH Try.prog 20 #[.pointer p0] H (fun v H' => ∃ (r0 : Int), v = .int .i64 r0 ∧ Q r0 H') := by
  unfold paged_Paged_int_Pages at h
  refine callsH_of_go Try.func20 rfl Try.ntmps20 (Nat.le_of_ble_eq_true rfl) ?_
  refine Go.seq ?_
  refine Go.region rfl ?_
  refine GoOps.q (v := .int .i64 0) rfl rfl (by decide) (q_assign rfl) ?_
  refine GoOps.nil ?_
  refine Go.seq ?_
  refine Go.seq ?_
  refine Go.region rfl ?_
  refine GoOps.q (v := .pointer p0) rfl rfl (by decide) (q_move rfl) ?_
  refine GoOps.q (v := .bool (Option.isNone p0)) rfl rfl (by decide) (q_eqlPn Try.underlying24 rfl rfl) ?_
  refine GoOps.nil ?_
  rcases bor (Option.isNone p0) with hc1 | hc1
  · have h := h.1 hc1
    refine Go.condT (btT rfl hc1) ?_
    refine Go.seq ?_
    refine Go.region rfl ?_
    refine GoOps.q (v := .int .i64 0) rfl rfl (by decide) (q_assign rfl) ?_
    refine GoOps.nil ?_
    exact Go.ret ⟨.inl rfl, _, _, DOk.nil, (resOk1 Try.results20 rfl), ⟨_, rfl, h⟩⟩
  · have h := h.2 hc1
    refine Go.condF (btF rfl hc1) ?_
    refine Go.skip ?_
    refine Go.seq ?_
    refine Go.region rfl ?_
    refine GoOps.q (v := .pointer p0) rfl rfl (by decide) (q_move rfl) ?_
    obtain ⟨a2, ha3, h⟩ := h
    refine GoOps.q (v := .pointer (some a2)) rfl rfl (by decide) (q_nilCheck (ptn rfl ha3)) ?_
    refine GoOps.q (v := .pointer (some (a2.add 2))) rfl rfl (by decide) (q_fieldAddr foff60_2 rfl) ?_
    obtain ⟨x4, hx5, h⟩ := h
    refine GoOps.q (v := Sl.v x4) rfl rfl (by decide) (q_load scalar53 rfl hx5) ?_
    refine GoOps.q (v := .int .i64 (x4.len : Int)) rfl rfl (by decide) (q_len Try.underlying53 rfl (ls1 rfl)) ?_
    refine GoOps.q (v := .int .i64 (x4.len : Int)) rfl rfl (by decide) (q_assign rfl) ?_
    refine GoOps.nil ?_
    exact Go.ret ⟨.inl rfl, _, _, DOk.nil, (resOk1 Try.results20 rfl), ⟨_, rfl, h⟩⟩

/-- (*keelson.paged.Paged[int]).Dirty$1 -/
def paged_Paged_int_Dirty_c1 {γ : Type} (c0 : Addr) (Y : List Value → γ → PH → (Nat → γ → PH → Prop) → Prop) (g : γ) (H : PH) (Q : Nat → γ → PH → Prop) : Prop :=
  mLd .pointer H c0 fun x1 =>
  paged_Paged_int_Pages x1 H fun y4 H3 =>
  mLoop (fun (s5 : Int × (Nat × γ)) (H8 : PH) (again6 : (Int × (Nat × γ)) → PH → Prop) =>
  mIf (decide (s5.1 < y4))
  (mLd .pointer H8 c0 fun x10 =>
  mNil x10 fun a12 =>
  mLd Sl.v H8 (a12.add 2) fun x14 =>
  mIdx x14 1 s5.1 fun a16 =>
  mLd .bool H8 a16 fun x18 =>
  mJoin (fun (s21 : Bool × (Nat × γ)) (H23 : PH) =>
  mIf s21.1
  (Q s21.2.1 s21.2.2 H23)
  (again6 (IntKind.wrap .i64 (s5.1 + 1), s21.2) H23))
  fun j22 =>
  mIf x18
  (mYield Y s5.2 [.int .i64 s5.1] H8 fun q26 H27 =>
  j22 (!(q26.1 == 0), q26) H27)
  (j22 (false, s5.2) H8))
  (Q s5.2.1 s5.2.2 H8))
  (0, (0, g)) H3

set_option maxRecDepth 20000 in
set_option maxHeartbeats 1000000 in
theorem paged_Paged_int_Dirty_c1_s {γ : Type} (c0 : Addr) (Y : List Value → γ → PH → (Nat → γ → PH → Prop) → Prop) (g : γ) (H : PH) (Q : Nat → γ → PH → Prop) (h : paged_Paged_int_Dirty_c1 c0 Y g H Q) :
    IterH Try.prog (.func (.func 38) #[] #[.pointer (some c0)]) Y g H Q := by
  unfold paged_Paged_int_Dirty_c1 at h
  refine iterH_of_goM (fi := []) (ca := [.pointer (some c0)]) body38 Try.func38 rfl Try.ntmps38 (Nat.le_of_ble_eq_true rfl) fun l Tk hd hy => ?_
  generalize hyv : Value.func (.yield l) #[] #[] = yv
  intro D M hM hB hA
  refine Go.seq ?_
  refine Go.region rfl ?_
  obtain ⟨x1, hx2, h⟩ := h
  refine GoOps.q (v := .pointer x1) rfl rfl (by decide) (q_load scalar24 rfl hx2) ?_
  refine call_dst rfl (by decide) body20 (paged_Paged_int_Pages_s _ _ _ h) rfl ?_
  rintro _ H3 ⟨y4, rfl, h⟩
  refine GoOps.q (v := .int .i64 0) rfl rfl (by decide) (q_move rfl) ?_
  refine GoOps.nil ?_
  refine Go.block ?_
  refine loop_goM (g := (0, g)) (fun s5 => s5.2) (fun ρ (s5 : Int × (Nat × γ)) => ρ 0 = yv ∧ ρ 1 = .pointer (some c0) ∧ ρ 5 = .int .i64 y4 ∧ ρ 6 = .int .i64 s5.1) hM hB hA h ⟨rfl, rfl, rfl, rfl⟩ rfl ?_
  clear h
  intro ρ s5 H8 again6 hE h hagain6
  obtain ⟨e7_0, e7_1, e7_5, e7_6⟩ := hE
  intro D M hM hB hA
  refine Go.seq ?_
  refine Go.region rfl ?_
  refine GoOps.q (v := .bool (decide (s5.1 < y4))) rfl rfl (by decide) (q_lss e7_6 e7_5) ?_
  refine GoOps.nil ?_
  refine Go.seq ?_
  rcases bor (decide (s5.1 < y4)) with hc9 | hc9
  · have h := h.1 hc9
    refine Go.condT (btT rfl hc9) ?_
    refine Go.skip ?_
    refine Go.seq ?_
    refine Go.block ?_
    refine Go.seq ?_
    refine Go.region rfl ?_
    refine GoOps.q (v := .int .i64 s5.1) rfl rfl (by decide) (q_move e7_6) ?_
    refine GoOps.q (v := .int .i64 s5.1) rfl rfl (by decide) (q_assign rfl) ?_
    refine GoOps.nil ?_
    refine Go.seq ?_
    refine Go.region rfl ?_
    obtain ⟨x10, hx11, h⟩ := h
    refine GoOps.q (v := .pointer x10) rfl rfl (by decide) (q_load scalar24 e7_1 hx11) ?_
    obtain ⟨a12, ha13, h⟩ := h
    refine GoOps.q (v := .pointer (some a12)) rfl rfl (by decide) (q_nilCheck (ptn rfl ha13)) ?_
    refine GoOps.q (v := .pointer (some (a12.add 2))) rfl rfl (by decide) (q_fieldAddr foff60_2 rfl) ?_
    obtain ⟨x14, hx15, h⟩ := h
    refine GoOps.q (v := Sl.v x14) rfl rfl (by decide) (q_load scalar53 rfl hx15) ?_
    refine GoOps.q (v := .int .i64 s5.1) rfl rfl (by decide) (q_move rfl) ?_
    obtain ⟨a16, ha17, h⟩ := h
    refine GoOps.q (v := .pointer (some a16)) rfl rfl (by decide) (q_idx slice53 ha17 rfl rfl) ?_
    obtain ⟨x18, hx19, h⟩ := h
    refine GoOps.q (v := .bool x18) rfl rfl (by decide) (q_load scalar4 rfl hx19) ?_
    refine GoOps.q (v := .bool x18) rfl rfl (by decide) (q_move rfl) ?_
    refine join_opsM (TT := fun q : Nat × γ => Tk q.1 q.2) (M := M) 5 (fun s21 => s21.2) (fun ρ (s21 : Bool × (Nat × γ)) => ρ 0 = yv ∧ ρ 1 = .pointer (some c0) ∧ ρ 5 = .int .i64 y4 ∧ ρ 6 = .int .i64 s5.1 ∧ ρ 21 = .bool s21.1) h ?_ ?_ <;> clear h
    · intro s21 H23 ρ h hE
      obtain ⟨e24_0, e24_1, e24_5, e24_6, e24_21⟩ := hE
      refine GoOps.nil ?_
      rcases bor s21.1 with hc25 | hc25
      · have h := h.1 hc25
        refine Go.condT (btT e24_21 hc25) ?_
        exact Go.retM (g := s21.2) hM hB hA ⟨.inl rfl, _, (resOk0 Try.results38), h⟩
      · have h := h.2 hc25
        refine Go.condF (btF e24_21 hc25) ?_
        refine Go.skip ?_
        refine Go.inBlock ?_
        refine Go.region rfl ?_
        refine GoOps.q (v := .int .i64 (IntKind.wrap .i64 (s5.1 + 1))) rfl rfl (by decide) (q_add e24_6 rfl) ?_
        refine GoOps.q (v := .int .i64 (IntKind.wrap .i64 (s5.1 + 1))) rfl rfl (by decide) (q_move rfl) ?_
        refine GoOps.nil ?_
        exact hagain6 (IntKind.wrap .i64 (s5.1 + 1), s21.2) _ _ h (by exact ⟨e24_0, e24_1, e24_5, rfl⟩) _ _ hM hB hA
    · intro j22 hj22 h
      rcases bor x18 with hc20 | hc20
      · have h := h.1 hc20
        refine GoOps.q (v := yv) (want_yes rfl rfl rfl hc20) rfl (by decide) (q_move e7_0) ?_
        refine GoOps.q (v := .int .i64 s5.1) (want_yes rfl rfl rfl hc20) rfl (by decide) (q_move rfl) ?_
        refine op_dst (want_yes rfl rfl rfl hc20) rfl (by decide) (do_yieldP (q := s5.2) hy hA (Eq.trans rfl hyv.symm) rfl h fun q26 H27 h => ?_) 
        refine GoOps.q (v := .bool (!(q26.1 == 0))) (want_yes rfl rfl rfl hc20) rfl (by decide) (q_not rfl) ?_
        refine GoOps.q (v := .bool (!(q26.1 == 0))) rfl rfl (by decide) (q_pickT (btT rfl hc20) rfl) ?_
        exact hj22 (!(q26.1 == 0), q26) _ _ h (by exact ⟨e7_0, e7_1, e7_5, e7_6, rfl⟩)
      · have h := h.2 hc20
        refine no_dst (want_no rfl rfl rfl hc20) rfl (by decide) ?_
        refine no_dst (want_no rfl rfl rfl hc20) rfl (by decide) ?_
        refine no_dst (want_no rfl rfl rfl hc20) rfl (by decide) ?_
        refine no_dst (want_no rfl rfl rfl hc20) rfl (by decide) ?_
        refine GoOps.q (v := .bool false) rfl rfl (by decide) (q_pickF (btF rfl hc20) rfl) ?_
        exact hj22 (false, s5.2) _ _ h (by exact ⟨e7_0, e7_1, e7_5, e7_6, rfl⟩)
  · have h := h.2 hc9
    refine Go.condF (btF rfl hc9) ?_
    refine Go.exit rfl ?_
    exact Go.fallM (g := s5.2) hM hB hA ⟨.inr rfl, _, (resOk0 Try.results38), h⟩

/-- (*keelson.paged.Paged[int]).Dirty -/
def paged_Paged_int_Dirty (p0 : Option Addr) (H : PH) (Q : Value → PH → Prop) : Prop :=
  mNew H (row [.pointer p0] 24) fun a1 H2 =>
  Q (.func (.func 38) #[] #[.pointer (some a1)]) H2

set_option maxRecDepth 20000 in
set_option maxHeartbeats 1000000 in
theorem paged_Paged_int_Dirty_s (p0 : Option Addr) (H : PH) (Q : Value → PH → Prop) (h : paged_Paged_int_Dirty p0 H Q) :
    CallsH Try.prog 29 #[.pointer p0] H (fun v H' => ∃ (r0 : Value), v = r0 ∧ Q r0 H') := by
  unfold paged_Paged_int_Dirty at h
  refine callsH_of_go Try.func29 rfl Try.ntmps29 (Nat.le_of_ble_eq_true rfl) ?_
  refine Go.seq ?_
  refine Go.region rfl ?_
  refine op_dst rfl rfl (by decide) (do_newBox (cs := [.pointer p0]) rfl rfl fun a1 H2 hb3 => ?_) 
  have h := h a1 H2 hb3
  refine GoOps.q (v := .nilFunc) rfl rfl (by decide) (q_assign rfl) ?_
  refine GoOps.nil ?_
  refine Go.seq ?_
  refine Go.region rfl ?_
  refine GoOps.q (v := (.func (.func 38) #[] #[.pointer (some a1)])) rfl rfl (by decide) (q_makeFunc rfl rfl) ?_
  refine GoOps.q (v := (.func (.func 38) #[] #[.pointer (some a1)])) rfl rfl (by decide) (q_assign rfl) ?_
  refine GoOps.nil ?_
  exact Go.ret ⟨.inl rfl, _, _, DOk.nil, (resOk1 Try.results29 rfl), ⟨_, rfl, h⟩⟩

/-- keelson.keelsonlaw11.dirty -/
def keelsonlaw11_dirty (p0 : Option Addr) (p1 : Int) (H : PH) (Q : Sl → PH → Prop) : Prop :=
  mNew H (row [.int .i64 p1] 3) fun a1 H2 =>
  paged_Paged_int_Dirty p0 H2 fun y5 H4 =>
  mBoth (IsFn y5) <|
  mIf (fisNil y5)
  (Q Sl.nil H4)
  (mNew H4 (row [.slice none 0 0] 31) fun a8 H9 =>
  mJoin (fun (s11 : Unit) (H13 : PH) =>
  mLd Sl.v H13 a8 fun x15 =>
  Q x15 H13)
  fun j12 =>
  IterH Try.prog y5 (fun (vs17 : List Value) (q18 : Unit) (H19 : PH) (y20 : Nat → Unit → PH → Prop) =>
  ∃ (x21 : Int), vs17 = [.int .i64 x21] ∧
  mLd Sl.v H19 a8 fun x22 =>
  mLd (.int .i64) H19 a1 fun x24 =>
  mIf (decide (x24 ≤ (x22.len : Int)))
  (y20 1 () H19)
  (mLd Sl.v H19 a8 fun x27 =>
  mNewS H19 (row [.int .i64 x21] 3) 1 fun r29 H30 =>
  mApp H30 3 1 8 [.int .i64 0] x27 r29 fun r32 H33 =>
  mSt H33 a8 ([Sl.v r32]) fun H34 =>
  y20 0 () H34)) () H9 fun j36 q37 H38 =>
  mIf (j36 == 1)
  (j12 () H38)
  (j12 () H38))

set_option maxRecDepth 20000 in
set_option maxHeartbeats 1000000 in
theorem keelsonlaw11_dirty_s (p0 : Option Addr) (p1 : Int) (H : PH) (Q : Sl → PH → Prop) (h : keelsonlaw11_dirty p0 p1 H Q) :
    CallsH Try.prog 13 #[.pointer p0, .int .i64 p1] H (fun v H' => ∃ (r0 : Sl), v = Sl.v r0 ∧ Q r0 H') := by
  unfold keelsonlaw11_dirty at h
  refine callsH_of_goM Try.func13 rfl Try.ntmps13 (Nat.le_of_ble_eq_true rfl) ?_
  intro D M hM hB hA
  refine Go.seq ?_
  refine Go.region rfl ?_
  refine op_dst rfl rfl (by decide) (do_newBox (cs := [.int .i64 p1]) rfl rfl fun a1 H2 hb3 => ?_) 
  have h := h a1 H2 hb3
  refine GoOps.q (v := Sl.v Sl.nil) rfl rfl (by decide) (q_assign rfl) ?_
  refine GoOps.nil ?_
  refine Go.seq ?_
  refine Go.region rfl ?_
  refine GoOps.q (v := .pointer p0) rfl rfl (by decide) (q_move rfl) ?_
  refine call_dst rfl (by decide) body29 (paged_Paged_int_Dirty_s _ _ _ h) rfl ?_
  rintro y5 H4 ⟨_, rfl, h⟩
  refine GoOps.q (v := y5) rfl rfl (by decide) (q_assign rfl) ?_
  refine GoOps.nil ?_
  refine Go.seq ?_
  refine Go.seq ?_
  refine Go.region rfl ?_
  refine GoOps.q (v := y5) rfl rfl (by decide) (q_move rfl) ?_
  obtain ⟨hf6, h⟩ := h
  refine GoOps.q (v := .bool (fisNil y5)) rfl rfl (by decide) (q_eqlFv Try.underlying44 rfl rfl hf6) ?_
  refine GoOps.nil ?_
  rcases bor (fisNil y5) with hc7 | hc7
  · have h := h.1 hc7
    refine Go.condT (btT rfl hc7) ?_
    refine Go.seq ?_
    refine Go.region rfl ?_
    refine GoOps.q (v := Sl.v Sl.nil) rfl rfl (by decide) (q_assign rfl) ?_
    refine GoOps.nil ?_
    exact Go.retM (g := ()) hM hB hA ⟨.inl rfl, _, (resOk1 Try.results13 rfl), ⟨_, rfl, h⟩⟩
  · have h := h.2 hc7
    refine Go.condF (btF rfl hc7) ?_
    refine Go.skip ?_
    refine Go.seq ?_
    refine Go.region rfl ?_
    refine op_dst rfl rfl (by decide) (do_new zero31 rfl fun a8 H9 hb10 => ?_) 
    have h := h a8 H9 hb10
    refine GoOps.nil ?_
    refine Go.seq ?_
    refine Go.seq ?_
    refine Go.region rfl ?_
    refine GoOps.q (v := y5) rfl rfl (by decide) (q_move rfl) ?_
    refine GoOps.nil ?_
    refine join_goM 1 (fun _ => ()) (fun ρ (s11 : Unit) => ρ 6 = .pointer (some a8)) hB h ?_ ?_ <;> clear h
    · intro s11 H13 ρ h hE
      have e14_6 := hE
      intro D M hM hB hA
      refine Go.seq ?_
      refine Go.region rfl ?_
      obtain ⟨x15, hx16, h⟩ := h
      refine GoOps.q (v := Sl.v x15) rfl rfl (by decide) (q_load scalar31 e14_6 hx16) ?_
      refine GoOps.q (v := Sl.v x15) rfl rfl (by decide) (q_assign rfl) ?_
      refine GoOps.nil ?_
      exact Go.retM (g := ()) hM hB hA ⟨.inl rfl, _, (resOk1 Try.results13 rfl), ⟨_, rfl, h⟩⟩
    · intro j12 hj12 h
      refine Go.block ?_
      refine go_range1 (g := ()) (c1 := .exit 0) h rfl (fun _ _ _ h => h) rfl hM hB hA trivial ?_ ?_ ?_ <;> clear h
      · rintro _ q18 H19 y20 ⟨x21, rfl, h⟩
        refine ⟨rfl, fun lp Bx r hr => ?_⟩
        clear hM hB hA
        intro D M hM hB hA
        refine Go.region rfl ?_
        refine GoOps.q (v := .int .i64 x21) rfl rfl (by decide) (q_assign rfl) ?_
        refine GoOps.nil ?_
        refine go_begin (g := ()) hr hB hA fun M hB hA => ?_
        have hM : Mk (some lp) D M := trivial
        refine Go.block ?_
        refine Go.seq ?_
        refine Go.seq ?_
        refine Go.region rfl ?_
        obtain ⟨x22, hx23, h⟩ := h
        refine GoOps.q (v := Sl.v x22) rfl rfl (by decide) (q_load scalar31 rfl hx23) ?_
        refine GoOps.q (v := .int .i64 (x22.len : Int)) rfl rfl (by decide) (q_len Try.underlying31 rfl (ls1 rfl)) ?_
        obtain ⟨x24, hx25, h⟩ := h
        refine GoOps.q (v := .int .i64 x24) rfl rfl (by decide) (q_load scalar3 rfl hx25) ?_
        refine GoOps.q (v := .bool (decide (x24 ≤ (x22.len : Int)))) rfl rfl (by decide) (q_geq rfl rfl) ?_
        refine GoOps.nil ?_
        rcases bor (decide (x24 ≤ (x22.len : Int))) with hc26 | hc26
        · have h := h.1 hc26
          refine Go.condT (btT rfl hc26) ?_
          exact Go.exitM (g := ()) rfl hM hB hA ⟨1, ⟨0, rfl, rfl⟩, h⟩
        · have h := h.2 hc26
          refine Go.condF (btF rfl hc26) ?_
          refine Go.skip ?_
          refine Go.region rfl ?_
          obtain ⟨x27, hx28, h⟩ := h
          refine GoOps.q (v := Sl.v x27) rfl rfl (by decide) (q_load scalar31 rfl hx28) ?_
          refine GoOps.q (v := .int .i64 x21) rfl rfl (by decide) (q_move rfl) ?_
          refine op_dst rfl rfl (by decide) (do_bs (ps := [(0, .int .i64 x21)]) (zs := [.int .i64 0]) (cs := [.int .i64 x21]) slice31 zero3 rfl rfl (by decide) (by decide) rfl rfl fun r29 H30 hb31 => ?_) 
          have h := h r29 H30 hb31
          refine op_dst rfl rfl (by decide) (do_append (zs := [.int .i64 0]) slice31 bytes3 (by decide) zero3 rfl rfl (by decide) rfl rfl Try.underlying31 rfl h fun r32 H33 h => ?_) 
          obtain ⟨q35b, q35o, q35c, q35e, hq35a, hq35b, hq35l, hq35v, h⟩ := h
          refine op_none rfl rfl (do_store (vs := [Sl.v r32]) size31 (pta rfl hq35a) rfl rfl rfl hq35v hq35b hq35l ?_) 
          refine GoOps.nil ?_
          refine Go.inBlock ?_
          exact Go.fallM (g := ()) hM hB hA ⟨0, rfl, h⟩
      · intro q37 H38 h
        intro D M hM hB hA
        refine Go.inBlock ?_
        exact hj12 () _ _ h (by exact rfl) _ _ hM hB hA
      · intro q37 H38 h
        intro D M hM hB hA
        refine Go.exit rfl ?_
        exact hj12 () _ _ h (by exact rfl) _ _ hM hB hA

/-- keelson.keelsonalike.Ints -/
def keelsonalike_Ints (p0 : Sl) (p1 : Sl) (H : PH) (Q : Bool → PH → Prop) : Prop :=
  mIf ((p0.len : Int) != (p1.len : Int))
  (Q false H)
  (mLoop (fun (s2 : Int) (H5 : PH) (again3 : Int → PH → Prop) =>
  mIf (decide (s2 < (p0.len : Int)))
  (mIdx p0 1 s2 fun a7 =>
  mLd (.int .i64) H5 a7 fun x9 =>
  mIdx p1 1 s2 fun a11 =>
  mLd (.int .i64) H5 a11 fun x13 =>
  mIf (x9 != x13)
  (Q false H5)
  (again3 (IntKind.wrap .i64 (s2 + 1)) H5))
  (Q true H5))
  0 H)

set_option maxRecDepth 20000 in
set_option maxHeartbeats 1000000 in
theorem keelsonalike_Ints_s (p0 : Sl) (p1 : Sl) (H : PH) (Q : Bool → PH → Prop) (h : keelsonalike_Ints p0 p1 H Q) :
    CallsH Try.prog 12 #[Sl.v p0, Sl.v p1] H (fun v H' => ∃ (r0 : Bool), v = .bool r0 ∧ Q r0 H') := by
  unfold keelsonalike_Ints at h
  refine callsH_of_go Try.func12 rfl Try.ntmps12 (Nat.le_of_ble_eq_true rfl) ?_
  refine Go.seq ?_
  refine Go.region rfl ?_
  refine GoOps.q (v := .bool false) rfl rfl (by decide) (q_assign rfl) ?_
  refine GoOps.nil ?_
  refine Go.seq ?_
  refine Go.seq ?_
  refine Go.region rfl ?_
  refine GoOps.q (v := Sl.v p0) rfl rfl (by decide) (q_move rfl) ?_
  refine GoOps.q (v := .int .i64 (p0.len : Int)) rfl rfl (by decide) (q_len Try.underlying31 rfl (ls1 rfl)) ?_
  refine GoOps.q (v := Sl.v p1) rfl rfl (by decide) (q_move rfl) ?_
  refine GoOps.q (v := .int .i64 (p1.len : Int)) rfl rfl (by decide) (q_len Try.underlying31 rfl (ls1 rfl)) ?_
  refine GoOps.q (v := .bool ((p0.len : Int) != (p1.len : Int))) rfl rfl (by decide) (q_neq rfl rfl) ?_
  refine GoOps.nil ?_
  rcases bor ((p0.len : Int) != (p1.len : Int)) with hc1 | hc1
  · have h := h.1 hc1
    refine Go.condT (btT rfl hc1) ?_
    refine Go.seq ?_
    refine Go.region rfl ?_
    refine GoOps.q (v := .bool false) rfl rfl (by decide) (q_assign rfl) ?_
    refine GoOps.nil ?_
    exact Go.ret ⟨.inl rfl, _, _, DOk.nil, (resOk1 Try.results12 rfl), ⟨_, rfl, h⟩⟩
  · have h := h.2 hc1
    refine Go.condF (btF rfl hc1) ?_
    refine Go.skip ?_
    refine Go.seq ?_
    refine Go.seq ?_
    refine Go.region rfl ?_
    refine GoOps.q (v := .int .i64 0) rfl rfl (by decide) (q_assign rfl) ?_
    refine GoOps.nil ?_
    refine Go.block ?_
    refine loop_go (fun ρ (s2 : Int) => ρ 0 = Sl.v p0 ∧ ρ 1 = Sl.v p1 ∧ ρ 5 = .int .i64 s2) h ⟨rfl, rfl, rfl⟩ ?_
    clear h
    intro ρ s2 H5 again3 hE h hagain3
    obtain ⟨e4_0, e4_1, e4_5⟩ := hE
    refine Go.seq ?_
    refine Go.seq ?_
    refine Go.region rfl ?_
    refine GoOps.q (v := .int .i64 s2) rfl rfl (by decide) (q_move e4_5) ?_
    refine GoOps.q (v := Sl.v p0) rfl rfl (by decide) (q_move e4_0) ?_
    refine GoOps.q (v := .int .i64 (p0.len : Int)) rfl rfl (by decide) (q_len Try.underlying31 rfl (ls1 rfl)) ?_
    refine GoOps.q (v := .bool (decide (s2 < (p0.len : Int)))) rfl rfl (by decide) (q_lss rfl rfl) ?_
    refine GoOps.nil ?_
    rcases bor (decide (s2 < (p0.len : Int))) with hc6 | hc6
    · have h := h.1 hc6
      refine Go.condT (btT rfl hc6) ?_
      refine Go.skip ?_
      refine Go.seq ?_
      refine Go.block ?_
      refine Go.seq ?_
      refine Go.draw mixed ?_
      refine plan_pure (i := 0) (d := 17) (S2 := 1) (v := Sl.v p0) rfl (by decide +kernel) rfl (q_move e4_0) ?_
      refine plan_pure (i := 1) (d := 18) (S2 := 3) (v := .int .i64 s2) rfl (by decide +kernel) rfl (q_move e4_5) ?_
      obtain ⟨a7, ha8, h⟩ := h
      refine plan_pure (i := 2) (d := 19) (S2 := 7) (v := .pointer (some a7)) rfl (by decide +kernel) rfl (q_idx slice31 ha8 rfl rfl) ?_
      obtain ⟨x9, hx10, h⟩ := h
      refine plan_load (i := 3) (d := 20) (S2 := 15) (v := .int .i64 x9) rfl (by decide +kernel) rfl (q_load scalar3 rfl hx10) ?_
      refine plan_pure (i := 4) (d := 21) (S2 := 31) (v := Sl.v p1) rfl (by decide +kernel) rfl (q_move e4_1) ?_
      refine plan_pure (i := 5) (d := 22) (S2 := 63) (v := .int .i64 s2) rfl (by decide +kernel) rfl (q_move e4_5) ?_
      obtain ⟨a11, ha12, h⟩ := h
      refine plan_pure (i := 6) (d := 23) (S2 := 127) (v := .pointer (some a11)) rfl (by decide +kernel) rfl (q_idx slice31 ha12 rfl rfl) ?_
      obtain ⟨x13, hx14, h⟩ := h
      refine plan_load (i := 7) (d := 24) (S2 := 255) (v := .int .i64 x13) rfl (by decide +kernel) rfl (q_load scalar3 rfl hx14) ?_
      refine plan_pure (i := 8) (d := 25) (S2 := 511) (v := .bool (x9 != x13)) rfl (by decide +kernel) rfl (q_neq rfl rfl) ?_
      refine plan_done (by decide +kernel) ?_
      rcases bor (x9 != x13) with hc15 | hc15
      · have h := h.1 hc15
        refine Go.condT (btT rfl hc15) ?_
        refine Go.seq ?_
        refine Go.region rfl ?_
        refine GoOps.q (v := .bool false) rfl rfl (by decide) (q_assign rfl) ?_
        refine GoOps.nil ?_
        exact Go.ret ⟨.inl rfl, _, _, DOk.nil, (resOk1 Try.results12 rfl), ⟨_, rfl, h⟩⟩
      · have h := h.2 hc15
        refine Go.condF (btF rfl hc15) ?_
        refine Go.skip ?_
        refine Go.inBlock ?_
        refine Go.region rfl ?_
        refine GoOps.q (v := .int .i64 s2) rfl rfl (by decide) (q_move e4_5) ?_
        refine GoOps.q (v := .int .i64 (IntKind.wrap .i64 (s2 + 1))) rfl rfl (by decide) (q_add rfl rfl) ?_
        refine GoOps.q (v := .int .i64 (IntKind.wrap .i64 (s2 + 1))) rfl rfl (by decide) (q_assign rfl) ?_
        refine GoOps.nil ?_
        exact hagain3 _ _ _ h ⟨e4_0, e4_1, rfl⟩
    · have h := h.2 hc6
      refine Go.condF (btF rfl hc6) ?_
      refine Go.exit rfl ?_
      refine Go.seq ?_
      refine Go.region rfl ?_
      refine GoOps.q (v := .bool true) rfl rfl (by decide) (q_assign rfl) ?_
      refine GoOps.nil ?_
      exact Go.ret ⟨.inl rfl, _, _, DOk.nil, (resOk1 Try.results12 rfl), ⟨_, rfl, h⟩⟩

/-- (*keelson.paged.Paged[int]).Clean -/
def paged_Paged_int_Clean (p0 : Option Addr) (H : PH) (Q : PH → Prop) : Prop :=
  mIf (!(Option.isNone p0))
  (mNil p0 fun a2 =>
  mLd Sl.v H (a2.add 2) fun x4 =>
  mClear H 1 [.bool false] x4 fun H6 =>
  Q H6)
  (Q H)

set_option maxRecDepth 20000 in
set_option maxHeartbeats 1000000 in
theorem paged_Paged_int_Clean_s (p0 : Option Addr) (H : PH) (Q : PH → Prop) (h : paged_Paged_int_Clean p0 H Q) :
    CallsH Try.prog 11 #[.pointer p0] H (fun v H' => v = .tuple #[] ∧ Q H') := by
  unfold paged_Paged_int_Clean at h
  refine callsH_of_go Try.func11 rfl Try.ntmps11 (Nat.le_of_ble_eq_true rfl) ?_
  refine Go.seq ?_
  refine Go.region rfl ?_
  refine GoOps.q (v := .pointer p0) rfl rfl (by decide) (q_move rfl) ?_
  refine GoOps.q (v := .bool (!(Option.isNone p0))) rfl rfl (by decide) (q_neqPn Try.underlying24 rfl rfl) ?_
  refine GoOps.nil ?_
  rcases bor (!(Option.isNone p0)) with hc1 | hc1
  · have h := h.1 hc1
    refine Go.condT (btT rfl hc1) ?_
    refine Go.region rfl ?_
    refine GoOps.q (v := .pointer p0) rfl rfl (by decide) (q_move rfl) ?_
    obtain ⟨a2, ha3, h⟩ := h
    refine GoOps.q (v := .pointer (some a2)) rfl rfl (by decide) (q_nilCheck (ptn rfl ha3)) ?_
    refine GoOps.q (v := .pointer (some (a2.add 2))) rfl rfl (by decide) (q_fieldAddr foff60_2 rfl) ?_
    obtain ⟨x4, hx5, h⟩ := h
    refine GoOps.q (v := Sl.v x4) rfl rfl (by decide) (q_load scalar53 rfl hx5) ?_
    refine op_none rfl rfl (do_clear (zs := [.bool false]) slice53 zero4 rfl rfl rfl (by decide) rfl h fun H6 h => ?_) 
    refine GoOps.nil ?_
    exact Go.fall ⟨.inr rfl, _, _, DOk.nil, (resOk0 Try.results11), ⟨rfl, h⟩⟩
  · have h := h.2 hc1
    refine Go.condF (btF rfl hc1) ?_
    refine Go.skip ?_
    exact Go.fall ⟨.inr rfl, _, _, DOk.nil, (resOk0 Try.results11), ⟨rfl, h⟩⟩

/-- (*keelson.paged.Paged[int]).at -/
def paged_Paged_int_at (p0 : Option Addr) (p1 : Int) (H : PH) (Q : Sl → PH → Prop) : Prop :=
  mJoin (fun (s2 : Bool) (H4 : PH) =>
  mIf s2
  (Q Sl.nil H4)
  (mNil p0 fun a7 =>
  mLd Sl.v H4 (a7.add 0) fun x9 =>
  mNil p0 fun a11 =>
  mLd (.int .i64) H4 (a11.add 1) fun x13 =>
  mNil p0 fun a15 =>
  mLd (.int .i64) H4 (a15.add 1) fun x17 =>
  mNil p0 fun a19 =>
  mLd Sl.v H4 (a19.add 0) fun x21 =>
  mCut x9 1 (IntKind.wrap .i64 (p1 * x13)) (if (x21.len : Int) < (IntKind.wrap .i64 ((IntKind.wrap .i64 (p1 + 1)) * x17)) then (x21.len : Int) else (IntKind.wrap .i64 ((IntKind.wrap .i64 (p1 + 1)) * x17))) fun r24 =>
  Q r24 H4))
  fun j3 =>
  mIf (decide (p1 < 0))
  (j3 true H)
  (paged_Paged_int_Pages p0 H fun y26 H25 =>
  j3 (decide (y26 ≤ p1)) H25)

set_option maxRecDepth 20000 in
set_option maxHeartbeats 1000000 in
theorem paged_Paged_int_at_s (p0 : Option Addr) (p1 : Int) (H : PH) (Q : Sl → PH → Prop) (h : paged_Paged_int_at p0 p1 H Q) :
    CallsH Try.prog 35 #[.pointer p0, .int .i64 p1] H (fun v H' => ∃ (r0 : Sl), v = Sl.v r0 ∧ Q r0 H') := by
  unfold paged_Paged_int_at at h
  refine callsH_of_go Try.func35 rfl Try.ntmps35 (Nat.le_of_ble_eq_true rfl) ?_
  refine Go.seq ?_
  refine Go.region rfl ?_
  refine GoOps.q (v := Sl.v Sl.nil) rfl rfl (by decide) (q_assign rfl) ?_
  refine GoOps.nil ?_
  refine Go.seq ?_
  refine Go.seq ?_
  refine Go.region rfl ?_
  refine GoOps.q (v := .int .i64 p1) rfl rfl (by decide) (q_move rfl) ?_
  refine GoOps.q (v := .bool (decide (p1 < 0))) rfl rfl (by decide) (q_lss rfl rfl) ?_
  refine GoOps.q (v := .bool (decide (p1 < 0))) rfl rfl (by decide) (q_move rfl) ?_
  refine join_ops 5 (fun ρ (s2 : Bool) => ρ 0 = .pointer p0 ∧ ρ 1 = .int .i64 p1 ∧ ρ 12 = .bool s2) h ?_ ?_ <;> clear h
  · intro s2 H4 ρ h hE
    obtain ⟨e5_0, e5_1, e5_12⟩ := hE
    refine GoOps.nil ?_
    rcases bor s2 with hc6 | hc6
    · have h := h.1 hc6
      refine Go.condT (btT e5_12 hc6) ?_
      refine Go.seq ?_
      refine Go.region rfl ?_
      refine GoOps.q (v := Sl.v Sl.nil) rfl rfl (by decide) (q_assign rfl) ?_
      refine GoOps.nil ?_
      exact Go.ret ⟨.inl rfl, _, _, DOk.nil, (resOk1 Try.results35 rfl), ⟨_, rfl, h⟩⟩
    · have h := h.2 hc6
      refine Go.condF (btF e5_12 hc6) ?_
      refine Go.skip ?_
      refine Go.seq ?_
      refine Go.draw mixed ?_
      refine plan_pure (i := 0) (d := 13) (S2 := 1) (v := .pointer p0) rfl (by decide +kernel) rfl (q_move e5_0) ?_
      obtain ⟨a7, ha8, h⟩ := h
      refine plan_pure (i := 1) (d := 14) (S2 := 3) (v := .pointer (some a7)) rfl (by decide +kernel) rfl (q_nilCheck (ptn rfl ha8)) ?_
      refine plan_pure (i := 2) (d := 15) (S2 := 7) (v := .pointer (some (a7.add 0))) rfl (by decide +kernel) rfl (q_fieldAddr foff60_0 rfl) ?_
      obtain ⟨x9, hx10, h⟩ := h
      refine plan_load (i := 3) (d := 16) (S2 := 15) (v := Sl.v x9) rfl (by decide +kernel) rfl (q_load scalar31 rfl hx10) ?_
      refine plan_pure (i := 4) (d := 17) (S2 := 31) (v := .int .i64 p1) rfl (by decide +kernel) rfl (q_move e5_1) ?_
      refine plan_pure (i := 5) (d := 18) (S2 := 63) (v := .pointer p0) rfl (by decide +kernel) rfl (q_move e5_0) ?_
      obtain ⟨a11, ha12, h⟩ := h
      refine plan_pure (i := 6) (d := 19) (S2 := 127) (v := .pointer (some a11)) rfl (by decide +kernel) rfl (q_nilCheck (ptn rfl ha12)) ?_
      refine plan_pure (i := 7) (d := 20) (S2 := 255) (v := .pointer (some (a11.add 1))) rfl (by decide +kernel) rfl (q_fieldAddr foff60_1 rfl) ?_
      obtain ⟨x13, hx14, h⟩ := h
      refine plan_load (i := 8) (d := 21) (S2 := 511) (v := .int .i64 x13) rfl (by decide +kernel) rfl (q_load scalar3 rfl hx14) ?_
      refine plan_pure (i := 9) (d := 22) (S2 := 1023) (v := .int .i64 (IntKind.wrap .i64 (p1 * x13))) rfl (by decide +kernel) rfl (q_mul rfl rfl) ?_
      refine plan_pure (i := 10) (d := 23) (S2 := 2047) (v := .int .i64 p1) rfl (by decide +kernel) rfl (q_move e5_1) ?_
      refine plan_pure (i := 11) (d := 24) (S2 := 4095) (v := .int .i64 (IntKind.wrap .i64 (p1 + 1))) rfl (by decide +kernel) rfl (q_add rfl rfl) ?_
      refine plan_pure (i := 12) (d := 25) (S2 := 8191) (v := .pointer p0) rfl (by decide +kernel) rfl (q_move e5_0) ?_
      obtain ⟨a15, ha16, h⟩ := h
      refine plan_pure (i := 13) (d := 26) (S2 := 16383) (v := .pointer (some a15)) rfl (by decide +kernel) rfl (q_nilCheck (ptn rfl ha16)) ?_
      refine plan_pure (i := 14) (d := 27) (S2 := 32767) (v := .pointer (some (a15.add 1))) rfl (by decide +kernel) rfl (q_fieldAddr foff60_1 rfl) ?_
      obtain ⟨x17, hx18, h⟩ := h
      refine plan_load (i := 15) (d := 28) (S2 := 65535) (v := .int .i64 x17) rfl (by decide +kernel) rfl (q_load scalar3 rfl hx18) ?_
      refine plan_pure (i := 16) (d := 29) (S2 := 131071) (v := .int .i64 (IntKind.wrap .i64 ((IntKind.wrap .i64 (p1 + 1)) * x17))) rfl (by decide +kernel) rfl (q_mul rfl rfl) ?_
      refine plan_pure (i := 17) (d := 30) (S2 := 262143) (v := .pointer p0) rfl (by decide +kernel) rfl (q_move e5_0) ?_
      obtain ⟨a19, ha20, h⟩ := h
      refine plan_pure (i := 18) (d := 31) (S2 := 524287) (v := .pointer (some a19)) rfl (by decide +kernel) rfl (q_nilCheck (ptn rfl ha20)) ?_
      refine plan_pure (i := 19) (d := 32) (S2 := 1048575) (v := .pointer (some (a19.add 0))) rfl (by decide +kernel) rfl (q_fieldAddr foff60_0 rfl) ?_
      obtain ⟨x21, hx22, h⟩ := h
      refine plan_load (i := 20) (d := 33) (S2 := 2097151) (v := Sl.v x21) rfl (by decide +kernel) rfl (q_load scalar31 rfl hx22) ?_
      refine plan_pure (i := 21) (d := 34) (S2 := 4194303) (v := .int .i64 (x21.len : Int)) rfl (by decide +kernel) rfl (q_len Try.underlying31 rfl (ls1 rfl)) ?_
      refine plan_pure (i := 22) (d := 35) (S2 := 8388607) (v := .int .i64 (if (x21.len : Int) < (IntKind.wrap .i64 ((IntKind.wrap .i64 (p1 + 1)) * x17)) then (x21.len : Int) else (IntKind.wrap .i64 ((IntKind.wrap .i64 (p1 + 1)) * x17)))) rfl (by decide +kernel) rfl (q_min2 rfl) ?_
      obtain ⟨r24, hm23, h⟩ := h
      refine plan_pure (i := 23) (d := 36) (S2 := 16777215) (v := Sl.v r24) rfl (by decide +kernel) rfl (q_cut slice31 hm23 rfl ⟨_, rfl⟩ ⟨_, rfl⟩) ?_
      refine plan_pure (i := 24) (d := 4) (S2 := 33554431) (v := Sl.v r24) rfl (by decide +kernel) rfl (q_assign rfl) ?_
      refine plan_done (by decide +kernel) ?_
      exact Go.ret ⟨.inl rfl, _, _, DOk.nil, (resOk1 Try.results35 rfl), ⟨_, rfl, h⟩⟩
  · intro j3 hj3 h
    rcases bor (decide (p1 < 0)) with hc1 | hc1
    · have h := h.1 hc1
      refine no_dst (want_no rfl rfl rfl hc1) rfl (by decide) ?_
      refine no_dst (want_no rfl rfl rfl hc1) rfl (by decide) ?_
      refine no_dst (want_no rfl rfl rfl hc1) rfl (by decide) ?_
      refine no_dst (want_no rfl rfl rfl hc1) rfl (by decide) ?_
      refine GoOps.q (v := .bool true) rfl rfl (by decide) (q_pickT (btT rfl hc1) rfl) ?_
      exact hj3 true _ _ h (by exact ⟨rfl, rfl, rfl⟩)
    · have h := h.2 hc1
      refine GoOps.q (v := .int .i64 p1) (want_yes rfl rfl rfl hc1) rfl (by decide) (q_move rfl) ?_
      refine GoOps.q (v := .pointer p0) (want_yes rfl rfl rfl hc1) rfl (by decide) (q_move rfl) ?_
      refine call_dst (want_yes rfl rfl rfl hc1) (by decide) body20 (paged_Paged_int_Pages_s _ _ _ h) rfl ?_
      rintro _ H25 ⟨y26, rfl, h⟩
      refine GoOps.q (v := .bool (decide (y26 ≤ p1))) (want_yes rfl rfl rfl hc1) rfl (by decide) (q_geq rfl rfl) ?_
      refine GoOps.q (v := .bool (decide (y26 ≤ p1))) rfl rfl (by decide) (q_pickF (btF rfl hc1) rfl) ?_
      exact hj3 (decide (y26 ≤ p1)) _ _ h (by exact ⟨rfl, rfl, rfl⟩)

/-- slices.Clone[[]int,int] -/
def slices_Clone_Slint_int (p0 : Sl) (H : PH) (Q : Sl → PH → Prop) : Prop :=
  mIf (Option.isNone p0.a)
  (Q Sl.nil H)
  (mNewS H (row [] 3) 0 fun r2 H3 =>
  mApp H3 3 1 8 [.int .i64 0] r2 p0 fun r5 H6 =>
  Q r5 H6)

set_option maxRecDepth 20000 in
set_option maxHeartbeats 1000000 in
theorem slices_Clone_Slint_int_s (p0 : Sl) (H : PH) (Q : Sl → PH → Prop) (h : slices_Clone_Slint_int p0 H Q) :
    CallsH Try.prog 34 #[Sl.v p0] H (fun v H' => ∃ (r0 : Sl), v = Sl.v r0 ∧ Q r0 H') := by
  unfold slices_Clone_Slint_int at h
  refine callsH_of_go Try.func34 rfl Try.ntmps34 (Nat.le_of_ble_eq_true rfl) ?_
  refine Go.seq ?_
  refine Go.region rfl ?_
  refine GoOps.q (v := Sl.v Sl.nil) rfl rfl (by decide) (q_assign rfl) ?_
  refine GoOps.nil ?_
  refine Go.seq ?_
  refine Go.seq ?_
  refine Go.region rfl ?_
  refine GoOps.q (v := Sl.v p0) rfl rfl (by decide) (q_move rfl) ?_
  refine GoOps.q (v := .bool (Option.isNone p0.a)) rfl rfl (by decide) (q_eqlSn Try.underlying31 rfl rfl) ?_
  refine GoOps.nil ?_
  rcases bor (Option.isNone p0.a) with hc1 | hc1
  · have h := h.1 hc1
    refine Go.condT (btT rfl hc1) ?_
    refine Go.seq ?_
    refine Go.region rfl ?_
    refine GoOps.q (v := Sl.v Sl.nil) rfl rfl (by decide) (q_assign rfl) ?_
    refine GoOps.nil ?_
    exact Go.ret ⟨.inl rfl, _, _, DOk.nil, (resOk1 Try.results34 rfl), ⟨_, rfl, h⟩⟩
  · have h := h.2 hc1
    refine Go.condF (btF rfl hc1) ?_
    refine Go.skip ?_
    refine Go.seq ?_
    refine Go.region rfl ?_
    refine op_dst rfl rfl (by decide) (do_bs0 slice31 fun r2 H3 hb4 => ?_) 
    have h := h r2 H3 hb4
    refine GoOps.q (v := Sl.v p0) rfl rfl (by decide) (q_move rfl) ?_
    refine op_dst rfl rfl (by decide) (do_append (zs := [.int .i64 0]) slice31 bytes3 (by decide) zero3 rfl rfl (by decide) rfl rfl Try.underlying31 rfl h fun r5 H6 h => ?_) 
    refine GoOps.q (v := Sl.v r5) rfl rfl (by decide) (q_assign rfl) ?_
    refine GoOps.nil ?_
    exact Go.ret ⟨.inl rfl, _, _, DOk.nil, (resOk1 Try.results34 rfl), ⟨_, rfl, h⟩⟩

/-- (*keelson.paged.Paged[int]).Page -/
def paged_Paged_int_Page (p0 : Option Addr) (p1 : Int) (H : PH) (Q : Sl → PH → Prop) : Prop :=
  paged_Paged_int_at p0 p1 H fun y2 H1 =>
  slices_Clone_Slint_int y2 H1 fun y4 H3 =>
  Q y4 H3

set_option maxRecDepth 20000 in
set_option maxHeartbeats 1000000 in
theorem paged_Paged_int_Page_s (p0 : Option Addr) (p1 : Int) (H : PH) (Q : Sl → PH → Prop) (h : paged_Paged_int_Page p0 p1 H Q) :
    CallsH Try.prog 21 #[.pointer p0, .int .i64 p1] H (fun v H' => ∃ (r0 : Sl), v = Sl.v r0 ∧ Q r0 H') := by
  unfold paged_Paged_int_Page at h
  refine callsH_of_go Try.func21 rfl Try.ntmps21 (Nat.le_of_ble_eq_true rfl) ?_
  refine Go.seq ?_
  refine Go.region rfl ?_
  refine GoOps.q (v := Sl.v Sl.nil) rfl rfl (by decide) (q_assign rfl) ?_
  refine GoOps.nil ?_
  refine Go.seq ?_
  refine Go.region rfl ?_
  refine GoOps.q (v := .pointer p0) rfl rfl (by decide) (q_move rfl) ?_
  refine GoOps.q (v := .int .i64 p1) rfl rfl (by decide) (q_move rfl) ?_
  refine call_dst rfl (by decide) body35 (paged_Paged_int_at_s _ _ _ _ h) rfl ?_
  rintro _ H1 ⟨y2, rfl, h⟩
  refine call_dst rfl (by decide) body34 (slices_Clone_Slint_int_s _ _ _ h) rfl ?_
  rintro _ H3 ⟨y4, rfl, h⟩
  refine GoOps.q (v := Sl.v y4) rfl rfl (by decide) (q_assign rfl) ?_
  refine GoOps.nil ?_
  exact Go.ret ⟨.inl rfl, _, _, DOk.nil, (resOk1 Try.results21 rfl), ⟨_, rfl, h⟩⟩

/-- keelson.keelsonlaw11.awake -/
def keelsonlaw11_awake (H : PH) (Q : Bool → PH → Prop) : Prop :=
  paged_New_int 5 2 0 H fun y2 H1 =>
  mJoin (fun (s4 : Bool) (H6 : PH) =>
  mIf s4
  (Q false H6)
  (paged_Paged_int_Set y2 4 1 H6 fun y10 H9 =>
  keelsonlaw11_dirty y2 9 H9 fun y12 H11 =>
  mNewS H11 (row [.int .i64 2] 3) 1 fun r13 H14 =>
  keelsonalike_Ints y12 r13 H14 fun y17 H16 =>
  paged_Paged_int_Clean y2 H16 fun H18 =>
  paged_Paged_int_Set y2 4 1 H18 fun y20 H19 =>
  keelsonlaw11_dirty y2 9 H19 fun y22 H21 =>
  paged_Paged_int_Get y2 4 H21 fun y24 y25 H23 =>
  paged_Paged_int_Get y2 5 H23 fun y27 y28 H26 =>
  mJoin (fun (s30 : Bool) (H32 : PH) =>
  mJoin (fun (s35 : Bool) (H37 : PH) =>
  mJoin (fun (s40 : Bool) (H42 : PH) =>
  mJoin (fun (s45 : Bool) (H47 : PH) =>
  mJoin (fun (s50 : Bool) (H52 : PH) =>
  mJoin (fun (s55 : Bool) (H57 : PH) =>
  mJoin (fun (s60 : Bool) (H62 : PH) =>
  mJoin (fun (s65 : Bool) (H67 : PH) =>
  mJoin (fun (s70 : Bool) (H72 : PH) =>
  mJoin (fun (s75 : Bool) (H77 : PH) =>
  mJoin (fun (s80 : Bool) (H82 : PH) =>
  Q s80 H82)
  fun j81 =>
  mIf s75
  (keelsonlaw11_dirty none 3 H77 fun y85 H84 =>
  j81 ((y85.len : Int) == 0) H84)
  (j81 false H77))
  fun j76 =>
  mIf s70
  (paged_Paged_int_Len none H72 fun y87 H86 =>
  j76 (y87 == 0) H86)
  (j76 false H72))
  fun j71 =>
  mIf s65
  (paged_Paged_int_Page y2 2 H67 fun y89 H88 =>
  mNewS H88 (row [.int .i64 1] 3) 1 fun r90 H91 =>
  keelsonalike_Ints y89 r90 H91 fun y94 H93 =>
  j71 y94 H93)
  (j71 false H67))
  fun j66 =>
  mIf s60
  (paged_Paged_int_Len y2 H62 fun y96 H95 =>
  j66 (y96 == 5) H95)
  (j66 false H62))
  fun j61 =>
  mIf s55
  (paged_Paged_int_Pages y2 H57 fun y98 H97 =>
  j61 (y98 == 3) H97)
  (j61 false H57))
  fun j56 =>
  mIf s50
  (j56 (!y28) H52)
  (j56 false H52))
  fun j51 =>
  mIf s45
  (j51 (y24 == 1) H47)
  (j51 false H47))
  fun j46 =>
  mIf s40
  (j46 y25 H42)
  (j46 false H42))
  fun j41 =>
  mIf s35
  (j41 ((y22.len : Int) == 0) H37)
  (j41 false H37))
  fun j36 =>
  mIf s30
  (j36 y20 H32)
  (j36 false H32))
  fun j31 =>
  mIf y10
  (j31 y17 H26)
  (j31 false H26)))
  fun j5 =>
  mIf (Option.isNone y2)
  (j5 true H1)
  (paged_New_int 0 1 0 H1 fun y100 H99 =>
  j5 (!(Option.isNone y100)) H99)

set_option maxRecDepth 20000 in
set_option maxHeartbeats 1000000 in
theorem keelsonlaw11_awake_s (H : PH) (Q : Bool → PH → Prop) (h : keelsonlaw11_awake H Q) :
    CallsH Try.prog 7 #[] H (fun v H' => ∃ (r0 : Bool), v = .bool r0 ∧ Q r0 H') := by
  unfold keelsonlaw11_awake at h
  refine callsH_of_go Try.func7 rfl Try.ntmps7 (Nat.le_of_ble_eq_true rfl) ?_
  refine Go.seq ?_
  refine Go.region rfl ?_
  refine GoOps.q (v := .bool false) rfl rfl (by decide) (q_assign rfl) ?_
  refine GoOps.nil ?_
  refine Go.seq ?_
  refine Go.region rfl ?_
  refine call_dst rfl (by decide) body8 (paged_New_int_s _ _ _ _ _ h) rfl ?_
  rintro _ H1 ⟨y2, rfl, h⟩
  refine GoOps.q (v := .pointer y2) rfl rfl (by decide) (q_assign rfl) ?_
  refine GoOps.nil ?_
  refine Go.seq ?_
  refine Go.seq ?_
  refine Go.region rfl ?_
  refine GoOps.q (v := .pointer y2) rfl rfl (by decide) (q_move rfl) ?_
  refine GoOps.q (v := .bool (Option.isNone y2)) rfl rfl (by decide) (q_eqlPn Try.underlying24 rfl rfl) ?_
  refine GoOps.q (v := .bool (Option.isNone y2)) rfl rfl (by decide) (q_move rfl) ?_
  refine join_ops 3 (fun ρ (s4 : Bool) => ρ 1 = .pointer y2 ∧ ρ 17 = .bool s4) h ?_ ?_ <;> clear h
  · intro s4 H6 ρ h hE
    obtain ⟨e7_1, e7_17⟩ := hE
    refine GoOps.nil ?_
    rcases bor s4 with hc8 | hc8
    · have h := h.1 hc8
      refine Go.condT (btT e7_17 hc8) ?_
      refine Go.seq ?_
      refine Go.region rfl ?_
      refine GoOps.q (v := .bool false) rfl rfl (by decide) (q_assign rfl) ?_
      refine GoOps.nil ?_
      exact Go.ret ⟨.inl rfl, _, _, DOk.nil, (resOk1 Try.results7 rfl), ⟨_, rfl, h⟩⟩
    · have h := h.2 hc8
      refine Go.condF (btF e7_17 hc8) ?_
      refine Go.skip ?_
      refine Go.seq ?_
      refine Go.region rfl ?_
      refine GoOps.q (v := .pointer y2) rfl rfl (by decide) (q_move e7_1) ?_
      refine call_dst rfl (by decide) body10 (paged_Paged_int_Set_s _ _ _ _ _ h) rfl ?_
      rintro _ H9 ⟨y10, rfl, h⟩
      refine GoOps.q (v := .bool y10) rfl rfl (by decide) (q_assign rfl) ?_
      refine GoOps.nil ?_
      refine Go.seq ?_
      refine Go.region rfl ?_
      refine GoOps.q (v := .pointer y2) rfl rfl (by decide) (q_move e7_1) ?_
      refine call_dst rfl (by decide) body13 (keelsonlaw11_dirty_s _ _ _ _ h) rfl ?_
      rintro _ H11 ⟨y12, rfl, h⟩
      refine op_dst rfl rfl (by decide) (do_bs (ps := [(0, .int .i64 2)]) (zs := [.int .i64 0]) (cs := [.int .i64 2]) slice31 zero3 rfl rfl (by decide) (by decide) rfl rfl fun r13 H14 hb15 => ?_) 
      have h := h r13 H14 hb15
      refine call_dst rfl (by decide) body12 (keelsonalike_Ints_s _ _ _ _ h) rfl ?_
      rintro _ H16 ⟨y17, rfl, h⟩
      refine GoOps.q (v := .bool y17) rfl rfl (by decide) (q_assign rfl) ?_
      refine GoOps.nil ?_
      refine Go.seq ?_
      refine Go.region rfl ?_
      refine GoOps.q (v := .pointer y2) rfl rfl (by decide) (q_move e7_1) ?_
      refine call_dst rfl (by decide) body11 (paged_Paged_int_Clean_s _ _ _ h) rfl ?_
      rintro _ H18 ⟨rfl, h⟩
      refine GoOps.nil ?_
      refine Go.seq ?_
      refine Go.region rfl ?_
      refine GoOps.q (v := .pointer y2) rfl rfl (by decide) (q_move e7_1) ?_
      refine call_dst rfl (by decide) body10 (paged_Paged_int_Set_s _ _ _ _ _ h) rfl ?_
      rintro _ H19 ⟨y20, rfl, h⟩
      refine GoOps.q (v := .bool y20) rfl rfl (by decide) (q_assign rfl) ?_
      refine GoOps.nil ?_
      refine Go.seq ?_
      refine Go.region rfl ?_
      refine GoOps.q (v := .pointer y2) rfl rfl (by decide) (q_move e7_1) ?_
      refine call_dst rfl (by decide) body13 (keelsonlaw11_dirty_s _ _ _ _ h) rfl ?_
      rintro _ H21 ⟨y22, rfl, h⟩
      refine GoOps.q (v := .int .i64 (y22.len : Int)) rfl rfl (by decide) (q_len Try.underlying31 rfl (ls1 rfl)) ?_
      refine GoOps.q (v := .bool ((y22.len : Int) == 0)) rfl rfl (by decide) (q_eql rfl rfl) ?_
      refine GoOps.q (v := .bool ((y22.len : Int) == 0)) rfl rfl (by decide) (q_assign rfl) ?_
      refine GoOps.nil ?_
      refine Go.seq ?_
      refine Go.region rfl ?_
      refine GoOps.q (v := .pointer y2) rfl rfl (by decide) (q_move e7_1) ?_
      refine call_dst rfl (by decide) body17 (paged_Paged_int_Get_s _ _ _ _ h) rfl ?_
      rintro _ H23 ⟨y24, y25, rfl, h⟩
      refine GoOps.q (v := .tuple #[.int .i64 y24, .bool y25]) rfl rfl (by decide) (q_move rfl) ?_
      refine GoOps.q (v := .int .i64 y24) rfl rfl (by decide) (q_extract rfl rfl) ?_
      refine GoOps.q (v := .bool y25) rfl rfl (by decide) (q_extract rfl rfl) ?_
      refine GoOps.q (v := .int .i64 y24) rfl rfl (by decide) (q_assign rfl) ?_
      refine GoOps.q (v := .bool y25) rfl rfl (by decide) (q_assign rfl) ?_
      refine GoOps.nil ?_
      refine Go.seq ?_
      refine Go.region rfl ?_
      refine GoOps.q (v := .pointer y2) rfl rfl (by decide) (q_move e7_1) ?_
      refine call_dst rfl (by decide) body17 (paged_Paged_int_Get_s _ _ _ _ h) rfl ?_
      rintro _ H26 ⟨y27, y28, rfl, h⟩
      refine GoOps.q (v := .tuple #[.int .i64 y27, .bool y28]) rfl rfl (by decide) (q_move rfl) ?_
      refine GoOps.q (v := .int .i64 y27) rfl rfl (by decide) (q_extract rfl rfl) ?_
      refine GoOps.q (v := .bool y28) rfl rfl (by decide) (q_extract rfl rfl) ?_
      refine GoOps.q (v := .int .i64 y27) rfl rfl (by decide) (q_assign rfl) ?_
      refine GoOps.q (v := .bool y28) rfl rfl (by decide) (q_assign rfl) ?_
      refine GoOps.nil ?_
      refine Go.seq ?_
      refine Go.region rfl ?_
      refine GoOps.q (v := .pointer none) rfl rfl (by decide) (q_assign rfl) ?_
      refine GoOps.nil ?_
      refine Go.seq ?_
      refine Go.region rfl ?_
      refine GoOps.q (v := .bool y10) rfl rfl (by decide) (q_move rfl) ?_
      refine GoOps.q (v := .bool y10) rfl rfl (by decide) (q_move rfl) ?_
      refine join_ops 2 (fun ρ (s30 : Bool) => ρ 1 = .pointer y2 ∧ ρ 4 = .bool y20 ∧ ρ 5 = .bool ((y22.len : Int) == 0) ∧ ρ 6 = .int .i64 y24 ∧ ρ 7 = .bool y25 ∧ ρ 9 = .bool y28 ∧ ρ 10 = .pointer none ∧ ρ 45 = .bool s30) h ?_ ?_ <;> clear h
      · intro s30 H32 ρ h hE
        obtain ⟨e33_1, e33_4, e33_5, e33_6, e33_7, e33_9, e33_10, e33_45⟩ := hE
        refine GoOps.q (v := .bool s30) rfl rfl (by decide) (q_move e33_45) ?_
        refine join_ops 2 (fun ρ (s35 : Bool) => ρ 1 = .pointer y2 ∧ ρ 5 = .bool ((y22.len : Int) == 0) ∧ ρ 6 = .int .i64 y24 ∧ ρ 7 = .bool y25 ∧ ρ 9 = .bool y28 ∧ ρ 10 = .pointer none ∧ ρ 48 = .bool s35) h ?_ ?_ <;> clear h
        · intro s35 H37 ρ h hE
          obtain ⟨e38_1, e38_5, e38_6, e38_7, e38_9, e38_10, e38_48⟩ := hE
          refine GoOps.q (v := .bool s35) rfl rfl (by decide) (q_move e38_48) ?_
          refine join_ops 2 (fun ρ (s40 : Bool) => ρ 1 = .pointer y2 ∧ ρ 6 = .int .i64 y24 ∧ ρ 7 = .bool y25 ∧ ρ 9 = .bool y28 ∧ ρ 10 = .pointer none ∧ ρ 51 = .bool s40) h ?_ ?_ <;> clear h
          · intro s40 H42 ρ h hE
            obtain ⟨e43_1, e43_6, e43_7, e43_9, e43_10, e43_51⟩ := hE
            refine GoOps.q (v := .bool s40) rfl rfl (by decide) (q_move e43_51) ?_
            refine join_ops 2 (fun ρ (s45 : Bool) => ρ 1 = .pointer y2 ∧ ρ 6 = .int .i64 y24 ∧ ρ 9 = .bool y28 ∧ ρ 10 = .pointer none ∧ ρ 54 = .bool s45) h ?_ ?_ <;> clear h
            · intro s45 H47 ρ h hE
              obtain ⟨e48_1, e48_6, e48_9, e48_10, e48_54⟩ := hE
              refine GoOps.q (v := .bool s45) rfl rfl (by decide) (q_move e48_54) ?_
              refine join_ops 3 (fun ρ (s50 : Bool) => ρ 1 = .pointer y2 ∧ ρ 9 = .bool y28 ∧ ρ 10 = .pointer none ∧ ρ 58 = .bool s50) h ?_ ?_ <;> clear h
              · intro s50 H52 ρ h hE
                obtain ⟨e53_1, e53_9, e53_10, e53_58⟩ := hE
                refine GoOps.q (v := .bool s50) rfl rfl (by decide) (q_move e53_58) ?_
                refine join_ops 3 (fun ρ (s55 : Bool) => ρ 1 = .pointer y2 ∧ ρ 10 = .pointer none ∧ ρ 62 = .bool s55) h ?_ ?_ <;> clear h
                · intro s55 H57 ρ h hE
                  obtain ⟨e58_1, e58_10, e58_62⟩ := hE
                  refine GoOps.q (v := .bool s55) rfl rfl (by decide) (q_move e58_62) ?_
                  refine join_ops 4 (fun ρ (s60 : Bool) => ρ 1 = .pointer y2 ∧ ρ 10 = .pointer none ∧ ρ 67 = .bool s60) h ?_ ?_ <;> clear h
                  · intro s60 H62 ρ h hE
                    obtain ⟨e63_1, e63_10, e63_67⟩ := hE
                    refine GoOps.q (v := .bool s60) rfl rfl (by decide) (q_move e63_67) ?_
                    refine join_ops 4 (fun ρ (s65 : Bool) => ρ 1 = .pointer y2 ∧ ρ 10 = .pointer none ∧ ρ 72 = .bool s65) h ?_ ?_ <;> clear h
                    · intro s65 H67 ρ h hE
                      obtain ⟨e68_1, e68_10, e68_72⟩ := hE
                      refine GoOps.q (v := .bool s65) rfl rfl (by decide) (q_move e68_72) ?_
                      refine join_ops 5 (fun ρ (s70 : Bool) => ρ 10 = .pointer none ∧ ρ 78 = .bool s70) h ?_ ?_ <;> clear h
                      · intro s70 H72 ρ h hE
                        obtain ⟨e73_10, e73_78⟩ := hE
                        refine GoOps.q (v := .bool s70) rfl rfl (by decide) (q_move e73_78) ?_
                        refine join_ops 4 (fun ρ (s75 : Bool) => ρ 10 = .pointer none ∧ ρ 83 = .bool s75) h ?_ ?_ <;> clear h
                        · intro s75 H77 ρ h hE
                          obtain ⟨e78_10, e78_83⟩ := hE
                          refine GoOps.q (v := .bool s75) rfl rfl (by decide) (q_move e78_83) ?_
                          refine join_ops 5 (fun ρ (s80 : Bool) => ρ 89 = .bool s80) h ?_ ?_ <;> clear h
                          · intro s80 H82 ρ h hE
                            have e83_89 := hE
                            refine GoOps.q (v := .bool s80) rfl rfl (by decide) (q_assign e83_89) ?_
                            refine GoOps.nil ?_
                            exact Go.ret ⟨.inl rfl, _, _, DOk.nil, (resOk1 Try.results7 rfl), ⟨_, rfl, h⟩⟩
                          · intro j81 hj81 h
                            rcases bor s75 with hc79 | hc79
                            · have h := h.1 hc79
                              refine GoOps.q (v := .pointer none) (want_yes rfl rfl rfl hc79) rfl (by decide) (q_move e78_10) ?_
                              refine call_dst (want_yes rfl rfl rfl hc79) (by decide) body13 (keelsonlaw11_dirty_s _ _ _ _ h) rfl ?_
                              rintro _ H84 ⟨y85, rfl, h⟩
                              refine GoOps.q (v := .int .i64 (y85.len : Int)) (want_yes rfl rfl rfl hc79) rfl (by decide) (q_len Try.underlying31 rfl (ls1 rfl)) ?_
                              refine GoOps.q (v := .bool ((y85.len : Int) == 0)) (want_yes rfl rfl rfl hc79) rfl (by decide) (q_eql rfl rfl) ?_
                              refine GoOps.q (v := .bool ((y85.len : Int) == 0)) rfl rfl (by decide) (q_pickT (btT rfl hc79) rfl) ?_
                              exact hj81 ((y85.len : Int) == 0) _ _ h (by exact rfl)
                            · have h := h.2 hc79
                              refine no_dst (want_no rfl rfl rfl hc79) rfl (by decide) ?_
                              refine no_dst (want_no rfl rfl rfl hc79) rfl (by decide) ?_
                              refine no_dst (want_no rfl rfl rfl hc79) rfl (by decide) ?_
                              refine no_dst (want_no rfl rfl rfl hc79) rfl (by decide) ?_
                              refine GoOps.q (v := .bool false) rfl rfl (by decide) (q_pickF (btF rfl hc79) rfl) ?_
                              exact hj81 false _ _ h (by exact rfl)
                        · intro j76 hj76 h
                          rcases bor s70 with hc74 | hc74
                          · have h := h.1 hc74
                            refine GoOps.q (v := .pointer none) (want_yes rfl rfl rfl hc74) rfl (by decide) (q_move e73_10) ?_
                            refine call_dst (want_yes rfl rfl rfl hc74) (by decide) body24 (paged_Paged_int_Len_s _ _ _ h) rfl ?_
                            rintro _ H86 ⟨y87, rfl, h⟩
                            refine GoOps.q (v := .bool (y87 == 0)) (want_yes rfl rfl rfl hc74) rfl (by decide) (q_eql rfl rfl) ?_
                            refine GoOps.q (v := .bool (y87 == 0)) rfl rfl (by decide) (q_pickT (btT rfl hc74) rfl) ?_
                            exact hj76 (y87 == 0) _ _ h (by exact ⟨e73_10, rfl⟩)
                          · have h := h.2 hc74
                            refine no_dst (want_no rfl rfl rfl hc74) rfl (by decide) ?_
                            refine no_dst (want_no rfl rfl rfl hc74) rfl (by decide) ?_
                            refine no_dst (want_no rfl rfl rfl hc74) rfl (by decide) ?_
                            refine GoOps.q (v := .bool false) rfl rfl (by decide) (q_pickF (btF rfl hc74) rfl) ?_
                            exact hj76 false _ _ h (by exact ⟨e73_10, rfl⟩)
                      · intro j71 hj71 h
                        rcases bor s65 with hc69 | hc69
                        · have h := h.1 hc69
                          refine GoOps.q (v := .pointer y2) (want_yes rfl rfl rfl hc69) rfl (by decide) (q_move e68_1) ?_
                          refine call_dst (want_yes rfl rfl rfl hc69) (by decide) body21 (paged_Paged_int_Page_s _ _ _ _ h) rfl ?_
                          rintro _ H88 ⟨y89, rfl, h⟩
                          refine op_dst (want_yes rfl rfl rfl hc69) rfl (by decide) (do_bs (ps := [(0, .int .i64 1)]) (zs := [.int .i64 0]) (cs := [.int .i64 1]) slice31 zero3 rfl rfl (by decide) (by decide) rfl rfl fun r90 H91 hb92 => ?_) 
                          have h := h r90 H91 hb92
                          refine call_dst (want_yes rfl rfl rfl hc69) (by decide) body12 (keelsonalike_Ints_s _ _ _ _ h) rfl ?_
                          rintro _ H93 ⟨y94, rfl, h⟩
                          refine GoOps.q (v := .bool y94) rfl rfl (by decide) (q_pickT (btT rfl hc69) rfl) ?_
                          exact hj71 y94 _ _ h (by exact ⟨e68_10, rfl⟩)
                        · have h := h.2 hc69
                          refine no_dst (want_no rfl rfl rfl hc69) rfl (by decide) ?_
                          refine no_dst (want_no rfl rfl rfl hc69) rfl (by decide) ?_
                          refine no_dst (want_no rfl rfl rfl hc69) rfl (by decide) ?_
                          refine no_dst (want_no rfl rfl rfl hc69) rfl (by decide) ?_
                          refine GoOps.q (v := .bool false) rfl rfl (by decide) (q_pickF (btF rfl hc69) rfl) ?_
                          exact hj71 false _ _ h (by exact ⟨e68_10, rfl⟩)
                    · intro j66 hj66 h
                      rcases bor s60 with hc64 | hc64
                      · have h := h.1 hc64
                        refine GoOps.q (v := .pointer y2) (want_yes rfl rfl rfl hc64) rfl (by decide) (q_move e63_1) ?_
                        refine call_dst (want_yes rfl rfl rfl hc64) (by decide) body24 (paged_Paged_int_Len_s _ _ _ h) rfl ?_
                        rintro _ H95 ⟨y96, rfl, h⟩
                        refine GoOps.q (v := .bool (y96 == 5)) (want_yes rfl rfl rfl hc64) rfl (by decide) (q_eql rfl rfl) ?_
                        refine GoOps.q (v := .bool (y96 == 5)) rfl rfl (by decide) (q_pickT (btT rfl hc64) rfl) ?_
                        exact hj66 (y96 == 5) _ _ h (by exact ⟨e63_1, e63_10, rfl⟩)
                      · have h := h.2 hc64
                        refine no_dst (want_no rfl rfl rfl hc64) rfl (by decide) ?_
                        refine no_dst (want_no rfl rfl rfl hc64) rfl (by decide) ?_
                        refine no_dst (want_no rfl rfl rfl hc64) rfl (by decide) ?_
                        refine GoOps.q (v := .bool false) rfl rfl (by decide) (q_pickF (btF rfl hc64) rfl) ?_
                        exact hj66 false _ _ h (by exact ⟨e63_1, e63_10, rfl⟩)
                  · intro j61 hj61 h
                    rcases bor s55 with hc59 | hc59
                    · have h := h.1 hc59
                      refine GoOps.q (v := .pointer y2) (want_yes rfl rfl rfl hc59) rfl (by decide) (q_move e58_1) ?_
                      refine call_dst (want_yes rfl rfl rfl hc59) (by decide) body20 (paged_Paged_int_Pages_s _ _ _ h) rfl ?_
                      rintro _ H97 ⟨y98, rfl, h⟩
                      refine GoOps.q (v := .bool (y98 == 3)) (want_yes rfl rfl rfl hc59) rfl (by decide) (q_eql rfl rfl) ?_
                      refine GoOps.q (v := .bool (y98 == 3)) rfl rfl (by decide) (q_pickT (btT rfl hc59) rfl) ?_
                      exact hj61 (y98 == 3) _ _ h (by exact ⟨e58_1, e58_10, rfl⟩)
                    · have h := h.2 hc59
                      refine no_dst (want_no rfl rfl rfl hc59) rfl (by decide) ?_
                      refine no_dst (want_no rfl rfl rfl hc59) rfl (by decide) ?_
                      refine no_dst (want_no rfl rfl rfl hc59) rfl (by decide) ?_
                      refine GoOps.q (v := .bool false) rfl rfl (by decide) (q_pickF (btF rfl hc59) rfl) ?_
                      exact hj61 false _ _ h (by exact ⟨e58_1, e58_10, rfl⟩)
                · intro j56 hj56 h
                  rcases bor s50 with hc54 | hc54
                  · have h := h.1 hc54
                    refine GoOps.q (v := .bool y28) (want_yes rfl rfl rfl hc54) rfl (by decide) (q_move e53_9) ?_
                    refine GoOps.q (v := .bool (!y28)) (want_yes rfl rfl rfl hc54) rfl (by decide) (q_not rfl) ?_
                    refine GoOps.q (v := .bool (!y28)) rfl rfl (by decide) (q_pickT (btT rfl hc54) rfl) ?_
                    exact hj56 (!y28) _ _ h (by exact ⟨e53_1, e53_10, rfl⟩)
                  · have h := h.2 hc54
                    refine no_dst (want_no rfl rfl rfl hc54) rfl (by decide) ?_
                    refine no_dst (want_no rfl rfl rfl hc54) rfl (by decide) ?_
                    refine GoOps.q (v := .bool false) rfl rfl (by decide) (q_pickF (btF rfl hc54) rfl) ?_
                    exact hj56 false _ _ h (by exact ⟨e53_1, e53_10, rfl⟩)
              · intro j51 hj51 h
                rcases bor s45 with hc49 | hc49
                · have h := h.1 hc49
                  refine GoOps.q (v := .int .i64 y24) (want_yes rfl rfl rfl hc49) rfl (by decide) (q_move e48_6) ?_
                  refine GoOps.q (v := .bool (y24 == 1)) (want_yes rfl rfl rfl hc49) rfl (by decide) (q_eql rfl rfl) ?_
                  refine GoOps.q (v := .bool (y24 == 1)) rfl rfl (by decide) (q_pickT (btT rfl hc49) rfl) ?_
                  exact hj51 (y24 == 1) _ _ h (by exact ⟨e48_1, e48_9, e48_10, rfl⟩)
                · have h := h.2 hc49
                  refine no_dst (want_no rfl rfl rfl hc49) rfl (by decide) ?_
                  refine no_dst (want_no rfl rfl rfl hc49) rfl (by decide) ?_
                  refine GoOps.q (v := .bool false) rfl rfl (by decide) (q_pickF (btF rfl hc49) rfl) ?_
                  exact hj51 false _ _ h (by exact ⟨e48_1, e48_9, e48_10, rfl⟩)
            · intro j46 hj46 h
              rcases bor s40 with hc44 | hc44
              · have h := h.1 hc44
                refine GoOps.q (v := .bool y25) (want_yes rfl rfl rfl hc44) rfl (by decide) (q_move e43_7) ?_
                refine GoOps.q (v := .bool y25) rfl rfl (by decide) (q_pickT (btT rfl hc44) rfl) ?_
                exact hj46 y25 _ _ h (by exact ⟨e43_1, e43_6, e43_9, e43_10, rfl⟩)
              · have h := h.2 hc44
                refine no_dst (want_no rfl rfl rfl hc44) rfl (by decide) ?_
                refine GoOps.q (v := .bool false) rfl rfl (by decide) (q_pickF (btF rfl hc44) rfl) ?_
                exact hj46 false _ _ h (by exact ⟨e43_1, e43_6, e43_9, e43_10, rfl⟩)
          · intro j41 hj41 h
            rcases bor s35 with hc39 | hc39
            · have h := h.1 hc39
              refine GoOps.q (v := .bool ((y22.len : Int) == 0)) (want_yes rfl rfl rfl hc39) rfl (by decide) (q_move e38_5) ?_
              refine GoOps.q (v := .bool ((y22.len : Int) == 0)) rfl rfl (by decide) (q_pickT (btT rfl hc39) rfl) ?_
              exact hj41 ((y22.len : Int) == 0) _ _ h (by exact ⟨e38_1, e38_6, e38_7, e38_9, e38_10, rfl⟩)
            · have h := h.2 hc39
              refine no_dst (want_no rfl rfl rfl hc39) rfl (by decide) ?_
              refine GoOps.q (v := .bool false) rfl rfl (by decide) (q_pickF (btF rfl hc39) rfl) ?_
              exact hj41 false _ _ h (by exact ⟨e38_1, e38_6, e38_7, e38_9, e38_10, rfl⟩)
        · intro j36 hj36 h
          rcases bor s30 with hc34 | hc34
          · have h := h.1 hc34
            refine GoOps.q (v := .bool y20) (want_yes rfl rfl rfl hc34) rfl (by decide) (q_move e33_4) ?_
            refine GoOps.q (v := .bool y20) rfl rfl (by decide) (q_pickT (btT rfl hc34) rfl) ?_
            exact hj36 y20 _ _ h (by exact ⟨e33_1, e33_5, e33_6, e33_7, e33_9, e33_10, rfl⟩)
          · have h := h.2 hc34
            refine no_dst (want_no rfl rfl rfl hc34) rfl (by decide) ?_
            refine GoOps.q (v := .bool false) rfl rfl (by decide) (q_pickF (btF rfl hc34) rfl) ?_
            exact hj36 false _ _ h (by exact ⟨e33_1, e33_5, e33_6, e33_7, e33_9, e33_10, rfl⟩)
      · intro j31 hj31 h
        rcases bor y10 with hc29 | hc29
        · have h := h.1 hc29
          refine GoOps.q (v := .bool y17) (want_yes rfl rfl rfl hc29) rfl (by decide) (q_move rfl) ?_
          refine GoOps.q (v := .bool y17) rfl rfl (by decide) (q_pickT (btT rfl hc29) rfl) ?_
          exact hj31 y17 _ _ h (by exact ⟨e7_1, rfl, rfl, rfl, rfl, rfl, rfl, rfl⟩)
        · have h := h.2 hc29
          refine no_dst (want_no rfl rfl rfl hc29) rfl (by decide) ?_
          refine GoOps.q (v := .bool false) rfl rfl (by decide) (q_pickF (btF rfl hc29) rfl) ?_
          exact hj31 false _ _ h (by exact ⟨e7_1, rfl, rfl, rfl, rfl, rfl, rfl, rfl⟩)
  · intro j5 hj5 h
    rcases bor (Option.isNone y2) with hc3 | hc3
    · have h := h.1 hc3
      refine no_dst (want_no rfl rfl rfl hc3) rfl (by decide) ?_
      refine no_dst (want_no rfl rfl rfl hc3) rfl (by decide) ?_
      refine GoOps.q (v := .bool true) rfl rfl (by decide) (q_pickT (btT rfl hc3) rfl) ?_
      exact hj5 true _ _ h (by exact ⟨rfl, rfl⟩)
    · have h := h.2 hc3
      refine call_dst (want_yes rfl rfl rfl hc3) (by decide) body8 (paged_New_int_s _ _ _ _ _ h) rfl ?_
      rintro _ H99 ⟨y100, rfl, h⟩
      refine GoOps.q (v := .bool (!(Option.isNone y100))) (want_yes rfl rfl rfl hc3) rfl (by decide) (q_neqPn Try.underlying24 rfl rfl) ?_
      refine GoOps.q (v := .bool (!(Option.isNone y100))) rfl rfl (by decide) (q_pickF (btF rfl hc3) rfl) ?_
      exact hj5 (!(Option.isNone y100)) _ _ h (by exact ⟨rfl, rfl⟩)

/-- keelson.keelsonref1.Mod -/
def keelsonref1_Mod (p0 : Int) (p1 : Int) (H : PH) (Q : Int → PH → Prop) : Prop :=
  mNe p1 <|
  mJoin (fun (s2 : Int) (H4 : PH) =>
  Q s2 H4)
  fun j3 =>
  mIf (decide ((Int.tmod p0 p1) < 0))
  (j3 (IntKind.wrap .i64 ((Int.tmod p0 p1) + p1)) H)
  (j3 (Int.tmod p0 p1) H)

set_option maxRecDepth 20000 in
set_option maxHeartbeats 1000000 in
theorem keelsonref1_Mod_s (p0 : Int) (p1 : Int) (H : PH) (Q : Int → PH → Prop) (h : keelsonref1_Mod p0 p1 H Q) :
    CallsH Try.prog 28 #[.int .i64 p0, .int .i64 p1] H (fun v H' => ∃ (r0 : Int), v = .int .i64 r0 ∧ Q r0 H') := by
  unfold keelsonref1_Mod at h
  refine callsH_of_go Try.func28 rfl Try.ntmps28 (Nat.le_of_ble_eq_true rfl) ?_
  refine Go.seq ?_
  refine Go.region rfl ?_
  refine GoOps.q (v := .int .i64 0) rfl rfl (by decide) (q_assign rfl) ?_
  refine GoOps.nil ?_
  refine Go.seq ?_
  refine Go.region rfl ?_
  refine GoOps.q (v := .int .i64 p0) rfl rfl (by decide) (q_move rfl) ?_
  refine GoOps.q (v := .int .i64 p1) rfl rfl (by decide) (q_move rfl) ?_
  obtain ⟨hn1, h⟩ := h
  refine GoOps.q (v := .int .i64 (Int.tmod p0 p1)) rfl rfl (by decide) (q_rem hn1 rfl rfl) ?_
  refine GoOps.q (v := .int .i64 (Int.tmod p0 p1)) rfl rfl (by decide) (q_assign rfl) ?_
  refine GoOps.nil ?_
  refine Go.seq ?_
  refine Go.seq ?_
  refine Go.region rfl ?_
  refine GoOps.q (v := .int .i64 (Int.tmod p0 p1)) rfl rfl (by decide) (q_move rfl) ?_
  refine GoOps.q (v := .bool (decide ((Int.tmod p0 p1) < 0))) rfl rfl (by decide) (q_lss rfl rfl) ?_
  refine GoOps.nil ?_
  refine join_go 1 (fun ρ (s2 : Int) => ρ 5 = .int .i64 s2) h ?_ ?_ <;> clear h
  · intro s2 H4 ρ h hE
    have e5_5 := hE
    refine Go.seq ?_
    refine Go.region rfl ?_
    refine GoOps.q (v := .int .i64 s2) rfl rfl (by decide) (q_move e5_5) ?_
    refine GoOps.q (v := .int .i64 s2) rfl rfl (by decide) (q_assign rfl) ?_
    refine GoOps.nil ?_
    exact Go.ret ⟨.inl rfl, _, _, DOk.nil, (resOk1 Try.results28 rfl), ⟨_, rfl, h⟩⟩
  · intro j3 hj3 h
    rcases bor (decide ((Int.tmod p0 p1) < 0)) with hc6 | hc6
    · have h := h.1 hc6
      refine Go.condT (btT rfl hc6) ?_
      refine Go.region rfl ?_
      refine GoOps.q (v := .int .i64 (Int.tmod p0 p1)) rfl rfl (by decide) (q_move rfl) ?_
      refine GoOps.q (v := .int .i64 p1) rfl rfl (by decide) (q_move rfl) ?_
      refine GoOps.q (v := .int .i64 (IntKind.wrap .i64 ((Int.tmod p0 p1) + p1))) rfl rfl (by decide) (q_add rfl rfl) ?_
      refine GoOps.q (v := .int .i64 (IntKind.wrap .i64 ((Int.tmod p0 p1) + p1))) rfl rfl (by decide) (q_assign rfl) ?_
      refine GoOps.nil ?_
      exact hj3 _ _ _ h rfl
    · have h := h.2 hc6
      refine Go.condF (btF rfl hc6) ?_
      refine Go.skip ?_
      exact hj3 _ _ _ h rfl

/-- keelson.keelsonalike.Round -/
def keelsonalike_Round (p0 : Int) (p1 : Int) (H : PH) (Q : Int → PH → Prop) : Prop :=
  keelsonref1_Mod p0 p1 H fun y2 H1 =>
  Q y2 H1

set_option maxRecDepth 20000 in
set_option maxHeartbeats 1000000 in
theorem keelsonalike_Round_s (p0 : Int) (p1 : Int) (H : PH) (Q : Int → PH → Prop) (h : keelsonalike_Round p0 p1 H Q) :
    CallsH Try.prog 9 #[.int .i64 p0, .int .i64 p1] H (fun v H' => ∃ (r0 : Int), v = .int .i64 r0 ∧ Q r0 H') := by
  unfold keelsonalike_Round at h
  refine callsH_of_go Try.func9 rfl Try.ntmps9 (Nat.le_of_ble_eq_true rfl) ?_
  refine Go.seq ?_
  refine Go.region rfl ?_
  refine GoOps.q (v := .int .i64 0) rfl rfl (by decide) (q_assign rfl) ?_
  refine GoOps.nil ?_
  refine Go.seq ?_
  refine Go.region rfl ?_
  refine GoOps.q (v := .int .i64 p0) rfl rfl (by decide) (q_move rfl) ?_
  refine GoOps.q (v := .int .i64 p1) rfl rfl (by decide) (q_move rfl) ?_
  refine call_dst rfl (by decide) body28 (keelsonref1_Mod_s _ _ _ _ h) rfl ?_
  rintro _ H1 ⟨y2, rfl, h⟩
  refine GoOps.q (v := .int .i64 y2) rfl rfl (by decide) (q_assign rfl) ?_
  refine GoOps.nil ?_
  exact Go.ret ⟨.inl rfl, _, _, DOk.nil, (resOk1 Try.results9 rfl), ⟨_, rfl, h⟩⟩

/-- keelson.keelsonlaw11.PagedDirty -/
def keelsonlaw11_PagedDirty (p0 : Sl) (p1 : Sl) (p2 : Int) (H : PH) (Q : Bool → PH → Prop) : Prop :=
  mJoin (fun (s2 : Bool) (H4 : PH) =>
  mIf s2
  (keelsonlaw11_awake H4 fun y8 H7 =>
  Q y8 H7)
  (paged_New_int 40 4 0 H4 fun y10 H9 =>
  mIf (Option.isNone y10)
  (Q false H9)
  (mNew H9 (row (List.replicate 40 (.int .i64 0)) 26) fun a12 H13 =>
  mLoop (fun (s15 : Int) (H18 : PH) (again16 : Int → PH → Prop) =>
  mIf (decide (s15 < (p0.len : Int)))
  (mIdx p0 2 s15 fun a20 =>
  mIdxA 2 a20 1 0 fun a22 =>
  mLd (.int .i64) H18 a22 fun x24 =>
  keelsonalike_Round x24 40 H18 fun y27 H26 =>
  mIdx p0 2 s15 fun a28 =>
  mIdxA 2 a28 1 1 fun a30 =>
  mLd (.int .i64) H26 a30 fun x32 =>
  keelsonalike_Round x32 3 H26 fun y35 H34 =>
  mIdxA 40 a12 1 y27 fun a36 =>
  mSt H34 a36 ([.int .i64 y35]) fun H38 =>
  mIdxA 40 a12 1 y27 fun a40 =>
  mLd (.int .i64) H38 a40 fun x42 =>
  paged_Paged_int_Set y10 y27 x42 H38 fun y45 H44 =>
  again16 (IntKind.wrap .i64 (s15 + 1)) H44)
  (paged_Paged_int_Clean y10 H18 fun H46 =>
  mNew H46 (row (List.replicate 10 (.bool false)) 30) fun a47 H48 =>
  mLoop (fun (s50 : Int) (H53 : PH) (again51 : Int → PH → Prop) =>
  mIf (decide (s50 < (p1.len : Int)))
  (mIdx p1 2 s50 fun a55 =>
  mIdxA 2 a55 1 0 fun a57 =>
  mLd (.int .i64) H53 a57 fun x59 =>
  mIdx p1 2 s50 fun a61 =>
  mIdxA 2 a61 1 1 fun a63 =>
  mLd (.int .i64) H53 a63 fun x65 =>
  keelsonalike_Round x59 40 H53 fun y68 H67 =>
  mSame H67 a63 (.int .i64 x65) <|
  keelsonalike_Round x65 3 H67 fun y71 H70 =>
  mIdxA 40 a12 1 y68 fun a72 =>
  mLd (.int .i64) H70 a72 fun x74 =>
  mJoin (fun (s76 : Unit) (H78 : PH) =>
  mIdxA 40 a12 1 y68 fun a80 =>
  mSt H78 a80 ([.int .i64 y71]) fun H82 =>
  paged_Paged_int_Set y10 y68 y71 H82 fun y85 H84 =>
  again51 (IntKind.wrap .i64 (s50 + 1)) H84)
  fun j77 =>
  mIf (x74 != y71)
  (mIdxA 10 a47 1 (IntKind.wrap .i64 (Int.tdiv y68 4)) fun a87 =>
  mSt H70 a87 ([.bool true]) fun H89 =>
  j77 () H89)
  (j77 () H70))
  (mLoop (fun (s91 : Sl × Int) (H94 : PH) (again92 : (Sl × Int) → PH → Prop) =>
  mIf (decide (s91.2 < 10))
  (mJoin (fun (s96 : Sl) (H98 : PH) =>
  again92 (s96, IntKind.wrap .i64 (s91.2 + 1)) H98)
  fun j97 =>
  mIdxA 10 a47 1 s91.2 fun a100 =>
  mLd .bool H94 a100 fun x102 =>
  mIf x102
  (mNewS H94 (row [.int .i64 s91.2] 3) 1 fun r105 H106 =>
  mApp H106 3 1 8 [.int .i64 0] s91.1 r105 fun r108 H109 =>
  j97 r108 H109)
  (j97 s91.1 H94))
  (keelsonalike_Round p2 11 H94 fun y111 H110 =>
  keelsonlaw11_dirty y10 100 H110 fun y113 H112 =>
  keelsonalike_Ints y113 s91.1 H112 fun y115 H114 =>
  mJoin (fun (s117 : Bool) (H119 : PH) =>
  mJoin (fun (s122 : Bool) (H124 : PH) =>
  mJoin (fun (s127 : Bool) (H129 : PH) =>
  Q s127 H129)
  fun j128 =>
  mIf s122
  (keelsonlaw11_awake H124 fun y132 H131 =>
  j128 y132 H131)
  (j128 false H124))
  fun j123 =>
  mIf s117
  (keelsonlaw11_dirty y10 100 H119 fun y134 H133 =>
  keelsonalike_Ints y134 s91.1 H133 fun y136 H135 =>
  j123 y136 H135)
  (j123 false H119))
  fun j118 =>
  mIf y115
  (mCut s91.1 1 0 (if (s91.1.len : Int) < y111 then (s91.1.len : Int) else y111) fun r138 =>
  keelsonlaw11_dirty y10 y111 H114 fun y140 H139 =>
  keelsonalike_Ints y140 r138 H139 fun y142 H141 =>
  j118 y142 H141)
  (j118 false H114)))
  (Sl.nil, 0) H53))
  0 H48))
  0 H13)))
  fun j3 =>
  mIf (decide (40 < (p0.len : Int)))
  (j3 true H)
  (j3 (decide (40 < (p1.len : Int))) H)

set_option maxRecDepth 20000 in
set_option maxHeartbeats 1000000 in
theorem keelsonlaw11_PagedDirty_s (p0 : Sl) (p1 : Sl) (p2 : Int) (H : PH) (Q : Bool → PH → Prop) (h : keelsonlaw11_PagedDirty p0 p1 p2 H Q) :
    CallsH Try.prog 3 #[Sl.v p0, Sl.v p1, .int .i64 p2] H (fun v H' => ∃ (r0 : Bool), v = .bool r0 ∧ Q r0 H') := by
  unfold keelsonlaw11_PagedDirty at h
  refine callsH_of_go Try.func3 rfl Try.ntmps3 (Nat.le_of_ble_eq_true rfl) ?_
  refine Go.seq ?_
  refine Go.region rfl ?_
  refine GoOps.q (v := .bool false) rfl rfl (by decide) (q_assign rfl) ?_
  refine GoOps.nil ?_
  refine Go.seq ?_
  refine Go.seq ?_
  refine Go.region rfl ?_
  refine GoOps.q (v := Sl.v p0) rfl rfl (by decide) (q_move rfl) ?_
  refine GoOps.q (v := .int .i64 (p0.len : Int)) rfl rfl (by decide) (q_len Try.underlying22 rfl (ls1 rfl)) ?_
  refine GoOps.q (v := .bool (decide (40 < (p0.len : Int)))) rfl rfl (by decide) (q_gtr rfl rfl) ?_
  refine GoOps.q (v := .bool (decide (40 < (p0.len : Int)))) rfl rfl (by decide) (q_move rfl) ?_
  refine join_ops 4 (fun ρ (s2 : Bool) => ρ 0 = Sl.v p0 ∧ ρ 1 = Sl.v p1 ∧ ρ 2 = .int .i64 p2 ∧ ρ 25 = .bool s2) h ?_ ?_ <;> clear h
  · intro s2 H4 ρ h hE
    obtain ⟨e5_0, e5_1, e5_2, e5_25⟩ := hE
    refine GoOps.nil ?_
    rcases bor s2 with hc6 | hc6
    · have h := h.1 hc6
      refine Go.condT (btT e5_25 hc6) ?_
      refine Go.seq ?_
      refine Go.region rfl ?_
      refine call_dst rfl (by decide) body7 (keelsonlaw11_awake_s _ _ h) rfl ?_
      rintro _ H7 ⟨y8, rfl, h⟩
      refine GoOps.q (v := .bool y8) rfl rfl (by decide) (q_assign rfl) ?_
      refine GoOps.nil ?_
      exact Go.ret ⟨.inl rfl, _, _, DOk.nil, (resOk1 Try.results3 rfl), ⟨_, rfl, h⟩⟩
    · have h := h.2 hc6
      refine Go.condF (btF e5_25 hc6) ?_
      refine Go.skip ?_
      refine Go.seq ?_
      refine Go.region rfl ?_
      refine call_dst rfl (by decide) body8 (paged_New_int_s _ _ _ _ _ h) rfl ?_
      rintro _ H9 ⟨y10, rfl, h⟩
      refine GoOps.q (v := .pointer y10) rfl rfl (by decide) (q_assign rfl) ?_
      refine GoOps.nil ?_
      refine Go.seq ?_
      refine Go.seq ?_
      refine Go.region rfl ?_
      refine GoOps.q (v := .pointer y10) rfl rfl (by decide) (q_move rfl) ?_
      refine GoOps.q (v := .bool (Option.isNone y10)) rfl rfl (by decide) (q_eqlPn Try.underlying24 rfl rfl) ?_
      refine GoOps.nil ?_
      rcases bor (Option.isNone y10) with hc11 | hc11
      · have h := h.1 hc11
        refine Go.condT (btT rfl hc11) ?_
        refine Go.seq ?_
        refine Go.region rfl ?_
        refine GoOps.q (v := .bool false) rfl rfl (by decide) (q_assign rfl) ?_
        refine GoOps.nil ?_
        exact Go.ret ⟨.inl rfl, _, _, DOk.nil, (resOk1 Try.results3 rfl), ⟨_, rfl, h⟩⟩
      · have h := h.2 hc11
        refine Go.condF (btF rfl hc11) ?_
        refine Go.skip ?_
        refine Go.seq ?_
        refine Go.region rfl ?_
        refine op_dst rfl rfl (by decide) (do_new zero26 rfl fun a12 H13 hb14 => ?_) 
        have h := h a12 H13 hb14
        refine GoOps.nil ?_
        refine Go.seq ?_
        refine Go.seq ?_
        refine Go.region rfl ?_
        refine GoOps.q (v := .int .i64 0) rfl rfl (by decide) (q_assign rfl) ?_
        refine GoOps.nil ?_
        refine Go.block ?_
        refine loop_go (fun ρ (s15 : Int) => ρ 0 = Sl.v p0 ∧ ρ 1 = Sl.v p1 ∧ ρ 2 = .int .i64 p2 ∧ ρ 7 = .pointer y10 ∧ ρ 8 = .pointer (some a12) ∧ ρ 9 = .int .i64 s15) h ⟨e5_0, e5_1, e5_2, rfl, rfl, rfl⟩ ?_
        clear h
        intro ρ s15 H18 again16 hE h hagain16
        obtain ⟨e17_0, e17_1, e17_2, e17_7, e17_8, e17_9⟩ := hE
        refine Go.seq ?_
        refine Go.seq ?_
        refine Go.region rfl ?_
        refine GoOps.q (v := .int .i64 s15) rfl rfl (by decide) (q_move e17_9) ?_
        refine GoOps.q (v := Sl.v p0) rfl rfl (by decide) (q_move e17_0) ?_
        refine GoOps.q (v := .int .i64 (p0.len : Int)) rfl rfl (by decide) (q_len Try.underlying22 rfl (ls1 rfl)) ?_
        refine GoOps.q (v := .bool (decide (s15 < (p0.len : Int)))) rfl rfl (by decide) (q_lss rfl rfl) ?_
        refine GoOps.nil ?_
        rcases bor (decide (s15 < (p0.len : Int))) with hc19 | hc19
        · have h := h.1 hc19
          refine Go.condT (btT rfl hc19) ?_
          refine Go.skip ?_
          refine Go.seq ?_
          refine Go.block ?_
          refine Go.seq ?_
          refine Go.region rfl ?_
          refine GoOps.q (v := Sl.v p0) rfl rfl (by decide) (q_move e17_0) ?_
          refine GoOps.q (v := .int .i64 s15) rfl rfl (by decide) (q_move e17_9) ?_
          obtain ⟨a20, ha21, h⟩ := h
          refine GoOps.q (v := .pointer (some a20)) rfl rfl (by decide) (q_idx slice22 ha21 rfl rfl) ?_
          obtain ⟨a22, ha23, h⟩ := h
          refine GoOps.q (v := .pointer (some a22)) rfl rfl (by decide) (q_idxA array28 ha23 rfl rfl) ?_
          obtain ⟨x24, hx25, h⟩ := h
          refine GoOps.q (v := .int .i64 x24) rfl rfl (by decide) (q_load scalar3 rfl hx25) ?_
          refine call_dst rfl (by decide) body9 (keelsonalike_Round_s _ _ _ _ h) rfl ?_
          rintro _ H26 ⟨y27, rfl, h⟩
          refine GoOps.q (v := .int .i64 y27) rfl rfl (by decide) (q_assign rfl) ?_
          refine GoOps.nil ?_
          refine Go.seq ?_
          refine Go.region rfl ?_
          refine GoOps.q (v := .int .i64 y27) rfl rfl (by decide) (q_move rfl) ?_
          refine GoOps.q (v := Sl.v p0) rfl rfl (by decide) (q_move e17_0) ?_
          refine GoOps.q (v := .int .i64 s15) rfl rfl (by decide) (q_move e17_9) ?_
          obtain ⟨a28, ha29, h⟩ := h
          refine GoOps.q (v := .pointer (some a28)) rfl rfl (by decide) (q_idx slice22 ha29 rfl rfl) ?_
          obtain ⟨a30, ha31, h⟩ := h
          refine GoOps.q (v := .pointer (some a30)) rfl rfl (by decide) (q_idxA array28 ha31 rfl rfl) ?_
          obtain ⟨x32, hx33, h⟩ := h
          refine GoOps.q (v := .int .i64 x32) rfl rfl (by decide) (q_load scalar3 rfl hx33) ?_
          refine call_dst rfl (by decide) body9 (keelsonalike_Round_s _ _ _ _ h) rfl ?_
          rintro _ H34 ⟨y35, rfl, h⟩
          obtain ⟨a36, ha37, h⟩ := h
          refine GoOps.q (v := .pointer (some a36)) rfl rfl (by decide) (q_idxA array26 ha37 e17_8 rfl) ?_
          obtain ⟨q39b, q39o, q39c, q39e, hq39a, hq39b, hq39l, hq39v, h⟩ := h
          refine op_none rfl rfl (do_store (vs := [.int .i64 y35]) size3 (pta rfl hq39a) rfl rfl rfl hq39v hq39b hq39l ?_) 
          refine GoOps.nil ?_
          refine Go.region rfl ?_
          refine GoOps.q (v := .pointer y10) rfl rfl (by decide) (q_move e17_7) ?_
          refine GoOps.q (v := .int .i64 y27) rfl rfl (by decide) (q_move rfl) ?_
          refine GoOps.q (v := .int .i64 y27) rfl rfl (by decide) (q_move rfl) ?_
          obtain ⟨a40, ha41, h⟩ := h
          refine GoOps.q (v := .pointer (some a40)) rfl rfl (by decide) (q_idxA array26 ha41 e17_8 rfl) ?_
          obtain ⟨x42, hx43, h⟩ := h
          refine GoOps.q (v := .int .i64 x42) rfl rfl (by decide) (q_load scalar3 rfl hx43) ?_
          refine call_dst rfl (by decide) body10 (paged_Paged_int_Set_s _ _ _ _ _ h) rfl ?_
          rintro _ H44 ⟨y45, rfl, h⟩
          refine GoOps.nil ?_
          refine Go.inBlock ?_
          refine Go.region rfl ?_
          refine GoOps.q (v := .int .i64 s15) rfl rfl (by decide) (q_move e17_9) ?_
          refine GoOps.q (v := .int .i64 (IntKind.wrap .i64 (s15 + 1))) rfl rfl (by decide) (q_add rfl rfl) ?_
          refine GoOps.q (v := .int .i64 (IntKind.wrap .i64 (s15 + 1))) rfl rfl (by decide) (q_assign rfl) ?_
          refine GoOps.nil ?_
          exact hagain16 _ _ _ h ⟨e17_0, e17_1, e17_2, e17_7, e17_8, rfl⟩
        · have h := h.2 hc19
          refine Go.condF (btF rfl hc19) ?_
          refine Go.exit rfl ?_
          refine Go.seq ?_
          refine Go.region rfl ?_
          refine GoOps.q (v := .pointer y10) rfl rfl (by decide) (q_move e17_7) ?_
          refine call_dst rfl (by decide) body11 (paged_Paged_int_Clean_s _ _ _ h) rfl ?_
          rintro _ H46 ⟨rfl, h⟩
          refine GoOps.nil ?_
          refine Go.seq ?_
          refine Go.region rfl ?_
          refine op_dst rfl rfl (by decide) (do_new zero30 rfl fun a47 H48 hb49 => ?_) 
          have h := h a47 H48 hb49
          refine GoOps.nil ?_
          refine Go.seq ?_
          refine Go.seq ?_
          refine Go.region rfl ?_
          refine GoOps.q (v := .int .i64 0) rfl rfl (by decide) (q_assign rfl) ?_
          refine GoOps.nil ?_
          refine Go.block ?_
          refine loop_go (fun ρ (s50 : Int) => ρ 1 = Sl.v p1 ∧ ρ 2 = .int .i64 p2 ∧ ρ 7 = .pointer y10 ∧ ρ 8 = .pointer (some a12) ∧ ρ 11 = .pointer (some a47) ∧ ρ 12 = .int .i64 s50) h ⟨e17_1, e17_2, e17_7, e17_8, rfl, rfl⟩ ?_
          clear h
          intro ρ s50 H53 again51 hE h hagain51
          obtain ⟨e52_1, e52_2, e52_7, e52_8, e52_11, e52_12⟩ := hE
          refine Go.seq ?_
          refine Go.seq ?_
          refine Go.region rfl ?_
          refine GoOps.q (v := .int .i64 s50) rfl rfl (by decide) (q_move e52_12) ?_
          refine GoOps.q (v := Sl.v p1) rfl rfl (by decide) (q_move e52_1) ?_
          refine GoOps.q (v := .int .i64 (p1.len : Int)) rfl rfl (by decide) (q_len Try.underlying22 rfl (ls1 rfl)) ?_
          refine GoOps.q (v := .bool (decide (s50 < (p1.len : Int)))) rfl rfl (by decide) (q_lss rfl rfl) ?_
          refine GoOps.nil ?_
          rcases bor (decide (s50 < (p1.len : Int))) with hc54 | hc54
          · have h := h.1 hc54
            refine Go.condT (btT rfl hc54) ?_
            refine Go.skip ?_
            refine Go.seq ?_
            refine Go.block ?_
            refine Go.seq ?_
            refine Go.draw mixed ?_
            refine plan_pure (i := 0) (d := 64) (S2 := 1) (v := Sl.v p1) rfl (by decide +kernel) rfl (q_move e52_1) ?_
            refine plan_pure (i := 1) (d := 65) (S2 := 3) (v := .int .i64 s50) rfl (by decide +kernel) rfl (q_move e52_12) ?_
            obtain ⟨a55, ha56, h⟩ := h
            refine plan_pure (i := 2) (d := 66) (S2 := 7) (v := .pointer (some a55)) rfl (by decide +kernel) rfl (q_idx slice22 ha56 rfl rfl) ?_
            obtain ⟨a57, ha58, h⟩ := h
            refine plan_pure (i := 3) (d := 67) (S2 := 15) (v := .pointer (some a57)) rfl (by decide +kernel) rfl (q_idxA array28 ha58 rfl rfl) ?_
            obtain ⟨x59, hx60, h⟩ := h
            refine plan_load (i := 4) (d := 68) (S2 := 31) (v := .int .i64 x59) rfl (by decide +kernel) rfl (q_load scalar3 rfl hx60) ?_
            refine plan_pure (i := 6) (d := 70) (S2 := 95) (v := Sl.v p1) rfl (by decide +kernel) rfl (q_move e52_1) ?_
            refine plan_pure (i := 7) (d := 71) (S2 := 223) (v := .int .i64 s50) rfl (by decide +kernel) rfl (q_move e52_12) ?_
            obtain ⟨a61, ha62, h⟩ := h
            refine plan_pure (i := 8) (d := 72) (S2 := 479) (v := .pointer (some a61)) rfl (by decide +kernel) rfl (q_idx slice22 ha62 rfl rfl) ?_
            obtain ⟨a63, ha64, h⟩ := h
            refine plan_pure (i := 9) (d := 73) (S2 := 991) (v := .pointer (some a63)) rfl (by decide +kernel) rfl (q_idxA array28 ha64 rfl rfl) ?_
            obtain ⟨x65, hx66, h⟩ := h
            refine plan_load (i := 10) (d := 74) (S2 := 2015) (v := .int .i64 x65) rfl (by decide +kernel) rfl (q_load scalar3 rfl hx66) ?_
            refine plan_one (j := 5) (S2 := 2047) (by decide +kernel) rfl (by decide) rfl ?_
            refine do_call2 body9 (keelsonalike_Round_s _ _ _ _ h) rfl ?_
            rintro _ H67 ⟨y68, rfl, h⟩
            obtain ⟨hr69, h⟩ := h
            refine ⟨_, (.inr ⟨⟨_, _, rfl, rfl, q_load scalar3 rfl hr69⟩, _, rfl, .inl ⟨⟨[5], by decide +kernel, rfl⟩, rfl⟩⟩), ?_⟩
            refine plan_one (j := 11) (S2 := 4095) (by decide +kernel) rfl (by decide) rfl ?_
            refine do_call2 body9 (keelsonalike_Round_s _ _ _ _ h) rfl ?_
            rintro _ H70 ⟨y71, rfl, h⟩
            refine ⟨_, (.inl ⟨⟨[11], by decide +kernel, rfl⟩, rfl⟩), ?_⟩
            refine plan_pure (i := 12) (d := 13) (S2 := 8191) (v := .int .i64 y68) rfl (by decide +kernel) rfl (q_assign rfl) ?_
            refine plan_pure (i := 13) (d := 14) (S2 := 16383) (v := .int .i64 y71) rfl (by decide +kernel) rfl (q_assign rfl) ?_
            refine plan_done (by decide +kernel) ?_
            refine Go.seq ?_
            refine Go.seq ?_
            refine Go.region rfl ?_
            refine GoOps.q (v := .int .i64 y68) rfl rfl (by decide) (q_move rfl) ?_
            obtain ⟨a72, ha73, h⟩ := h
            refine GoOps.q (v := .pointer (some a72)) rfl rfl (by decide) (q_idxA array26 ha73 e52_8 rfl) ?_
            obtain ⟨x74, hx75, h⟩ := h
            refine GoOps.q (v := .int .i64 x74) rfl rfl (by decide) (q_load scalar3 rfl hx75) ?_
            refine GoOps.q (v := .int .i64 y71) rfl rfl (by decide) (q_move rfl) ?_
            refine GoOps.q (v := .bool (x74 != y71)) rfl rfl (by decide) (q_neq rfl rfl) ?_
            refine GoOps.nil ?_
            refine join_go 1 (fun ρ (s76 : Unit) => ρ 1 = Sl.v p1 ∧ ρ 2 = .int .i64 p2 ∧ ρ 7 = .pointer y10 ∧ ρ 8 = .pointer (some a12) ∧ ρ 11 = .pointer (some a47) ∧ ρ 12 = .int .i64 s50 ∧ ρ 13 = .int .i64 y68 ∧ ρ 14 = .int .i64 y71) h ?_ ?_ <;> clear h
            · intro s76 H78 ρ h hE
              obtain ⟨e79_1, e79_2, e79_7, e79_8, e79_11, e79_12, e79_13, e79_14⟩ := hE
              refine Go.seq ?_
              refine Go.region rfl ?_
              refine GoOps.q (v := .int .i64 y68) rfl rfl (by decide) (q_move e79_13) ?_
              refine GoOps.q (v := .int .i64 y71) rfl rfl (by decide) (q_move e79_14) ?_
              obtain ⟨a80, ha81, h⟩ := h
              refine GoOps.q (v := .pointer (some a80)) rfl rfl (by decide) (q_idxA array26 ha81 e79_8 rfl) ?_
              obtain ⟨q83b, q83o, q83c, q83e, hq83a, hq83b, hq83l, hq83v, h⟩ := h
              refine op_none rfl rfl (do_store (vs := [.int .i64 y71]) size3 (pta rfl hq83a) rfl rfl rfl hq83v hq83b hq83l ?_) 
              refine GoOps.nil ?_
              refine Go.region rfl ?_
              refine GoOps.q (v := .pointer y10) rfl rfl (by decide) (q_move e79_7) ?_
              refine GoOps.q (v := .int .i64 y68) rfl rfl (by decide) (q_move e79_13) ?_
              refine GoOps.q (v := .int .i64 y71) rfl rfl (by decide) (q_move e79_14) ?_
              refine call_dst rfl (by decide) body10 (paged_Paged_int_Set_s _ _ _ _ _ h) rfl ?_
              rintro _ H84 ⟨y85, rfl, h⟩
              refine GoOps.nil ?_
              refine Go.inBlock ?_
              refine Go.region rfl ?_
              refine GoOps.q (v := .int .i64 s50) rfl rfl (by decide) (q_move e79_12) ?_
              refine GoOps.q (v := .int .i64 (IntKind.wrap .i64 (s50 + 1))) rfl rfl (by decide) (q_add rfl rfl) ?_
              refine GoOps.q (v := .int .i64 (IntKind.wrap .i64 (s50 + 1))) rfl rfl (by decide) (q_assign rfl) ?_
              refine GoOps.nil ?_
              exact hagain51 _ _ _ h ⟨e79_1, e79_2, e79_7, e79_8, e79_11, rfl⟩
            · intro j77 hj77 h
              rcases bor (x74 != y71) with hc86 | hc86
              · have h := h.1 hc86
                refine Go.condT (btT rfl hc86) ?_
                refine Go.region rfl ?_
                refine GoOps.q (v := .int .i64 y68) rfl rfl (by decide) (q_move rfl) ?_
                refine GoOps.q (v := .int .i64 (IntKind.wrap .i64 (Int.tdiv y68 4))) rfl rfl (by decide) (q_quo (by decide) rfl rfl) ?_
                obtain ⟨a87, ha88, h⟩ := h
                refine GoOps.q (v := .pointer (some a87)) rfl rfl (by decide) (q_idxA array30 ha88 e52_11 rfl) ?_
                obtain ⟨q90b, q90o, q90c, q90e, hq90a, hq90b, hq90l, hq90v, h⟩ := h
                refine op_none rfl rfl (do_store (vs := [.bool true]) size4 (pta rfl hq90a) rfl rfl rfl hq90v hq90b hq90l ?_) 
                refine GoOps.nil ?_
                exact hj77 _ _ _ h ⟨e52_1, e52_2, e52_7, e52_8, e52_11, e52_12, rfl, rfl⟩
              · have h := h.2 hc86
                refine Go.condF (btF rfl hc86) ?_
                refine Go.skip ?_
                exact hj77 _ _ _ h ⟨e52_1, e52_2, e52_7, e52_8, e52_11, e52_12, rfl, rfl⟩
          · have h := h.2 hc54
            refine Go.condF (btF rfl hc54) ?_
            refine Go.exit rfl ?_
            refine Go.seq ?_
            refine Go.region rfl ?_
            refine GoOps.q (v := Sl.v Sl.nil) rfl rfl (by decide) (q_assign rfl) ?_
            refine GoOps.nil ?_
            refine Go.seq ?_
            refine Go.seq ?_
            refine Go.region rfl ?_
            refine GoOps.q (v := .int .i64 0) rfl rfl (by decide) (q_assign rfl) ?_
            refine GoOps.nil ?_
            refine Go.block ?_
            refine loop_go (fun ρ (s91 : Sl × Int) => ρ 2 = .int .i64 p2 ∧ ρ 7 = .pointer y10 ∧ ρ 11 = .pointer (some a47) ∧ ρ 15 = Sl.v s91.1 ∧ ρ 16 = .int .i64 s91.2) h ⟨e52_2, e52_7, e52_11, rfl, rfl⟩ ?_
            clear h
            intro ρ s91 H94 again92 hE h hagain92
            obtain ⟨e93_2, e93_7, e93_11, e93_15, e93_16⟩ := hE
            refine Go.seq ?_
            refine Go.seq ?_
            refine Go.region rfl ?_
            refine GoOps.q (v := .int .i64 s91.2) rfl rfl (by decide) (q_move e93_16) ?_
            refine GoOps.q (v := .bool (decide (s91.2 < 10))) rfl rfl (by decide) (q_lss rfl rfl) ?_
            refine GoOps.nil ?_
            rcases bor (decide (s91.2 < 10)) with hc95 | hc95
            · have h := h.1 hc95
              refine Go.condT (btT rfl hc95) ?_
              refine Go.skip ?_
              refine Go.seq ?_
              refine join_go 1 (fun ρ (s96 : Sl) => ρ 2 = .int .i64 p2 ∧ ρ 7 = .pointer y10 ∧ ρ 11 = .pointer (some a47) ∧ ρ 15 = Sl.v s96 ∧ ρ 16 = .int .i64 s91.2) h ?_ ?_ <;> clear h
              · intro s96 H98 ρ h hE
                obtain ⟨e99_2, e99_7, e99_11, e99_15, e99_16⟩ := hE
                refine Go.region rfl ?_
                refine GoOps.q (v := .int .i64 s91.2) rfl rfl (by decide) (q_move e99_16) ?_
                refine GoOps.q (v := .int .i64 (IntKind.wrap .i64 (s91.2 + 1))) rfl rfl (by decide) (q_add rfl rfl) ?_
                refine GoOps.q (v := .int .i64 (IntKind.wrap .i64 (s91.2 + 1))) rfl rfl (by decide) (q_assign rfl) ?_
                refine GoOps.nil ?_
                exact hagain92 _ _ _ h ⟨e99_2, e99_7, e99_11, e99_15, rfl⟩
              · intro j97 hj97 h
                refine Go.block ?_
                refine Go.seq ?_
                refine Go.region rfl ?_
                refine GoOps.q (v := .int .i64 s91.2) rfl rfl (by decide) (q_move e93_16) ?_
                obtain ⟨a100, ha101, h⟩ := h
                refine GoOps.q (v := .pointer (some a100)) rfl rfl (by decide) (q_idxA array30 ha101 e93_11 rfl) ?_
                obtain ⟨x102, hx103, h⟩ := h
                refine GoOps.q (v := .bool x102) rfl rfl (by decide) (q_load scalar4 rfl hx103) ?_
                refine GoOps.nil ?_
                rcases bor x102 with hc104 | hc104
                · have h := h.1 hc104
                  refine Go.condT (btT rfl hc104) ?_
                  refine Go.region rfl ?_
                  refine GoOps.q (v := Sl.v s91.1) rfl rfl (by decide) (q_move e93_15) ?_
                  refine GoOps.q (v := .int .i64 s91.2) rfl rfl (by decide) (q_move e93_16) ?_
                  refine op_dst rfl rfl (by decide) (do_bs (ps := [(0, .int .i64 s91.2)]) (zs := [.int .i64 0]) (cs := [.int .i64 s91.2]) slice31 zero3 rfl rfl (by decide) (by decide) rfl rfl fun r105 H106 hb107 => ?_) 
                  have h := h r105 H106 hb107
                  refine op_dst rfl rfl (by decide) (do_append (zs := [.int .i64 0]) slice31 bytes3 (by decide) zero3 rfl rfl (by decide) rfl rfl Try.underlying31 rfl h fun r108 H109 h => ?_) 
                  refine GoOps.q (v := Sl.v r108) rfl rfl (by decide) (q_assign rfl) ?_
                  refine GoOps.nil ?_
                  refine Go.inBlock ?_
                  exact hj97 _ _ _ h ⟨e93_2, e93_7, e93_11, rfl, e93_16⟩
                · have h := h.2 hc104
                  refine Go.condF (btF rfl hc104) ?_
                  refine Go.skip ?_
                  refine Go.inBlock ?_
                  exact hj97 _ _ _ h ⟨e93_2, e93_7, e93_11, e93_15, e93_16⟩
            · have h := h.2 hc95
              refine Go.condF (btF rfl hc95) ?_
              refine Go.exit rfl ?_
              refine Go.seq ?_
              refine Go.region rfl ?_
              refine GoOps.q (v := .int .i64 p2) rfl rfl (by decide) (q_move e93_2) ?_
              refine call_dst rfl (by decide) body9 (keelsonalike_Round_s _ _ _ _ h) rfl ?_
              rintro _ H110 ⟨y111, rfl, h⟩
              refine GoOps.q (v := .int .i64 y111) rfl rfl (by decide) (q_assign rfl) ?_
              refine GoOps.nil ?_
              refine Go.seq ?_
              refine Go.draw mixed ?_
              refine plan_pure (i := 0) (d := 104) (S2 := 1) (v := .pointer y10) rfl (by decide +kernel) rfl (q_move e93_7) ?_
              refine plan_pure (i := 2) (d := 106) (S2 := 5) (v := Sl.v s91.1) rfl (by decide +kernel) rfl (q_move e93_15) ?_
              refine plan_one (j := 1) (S2 := 7) (by decide +kernel) rfl (by decide) rfl ?_
              refine do_call2 body13 (keelsonlaw11_dirty_s _ _ _ _ h) rfl ?_
              rintro _ H112 ⟨y113, rfl, h⟩
              refine ⟨_, rfl, ?_⟩
              refine plan_one (j := 3) (S2 := 15) (by decide +kernel) rfl (by decide) rfl ?_
              refine do_call2 body12 (keelsonalike_Ints_s _ _ _ _ h) rfl ?_
              rintro _ H114 ⟨y115, rfl, h⟩
              refine ⟨_, rfl, ?_⟩
              refine plan_pure (i := 4) (d := 108) (S2 := 31) (v := .bool y115) rfl (by decide +kernel) rfl (q_move rfl) ?_
              refine join_plan 65535 [] (fun ρ (s117 : Bool) => ρ 7 = .pointer y10 ∧ ρ 15 = Sl.v s91.1 ∧ ρ 119 = .bool s117) h ?_ ?_ <;> clear h
              · intro s117 H119 ρ h hE
                obtain ⟨e120_7, e120_15, e120_119⟩ := hE
                refine plan_pure (i := 16) (d := 120) (S2 := 131071) (v := .bool s117) rfl (by decide +kernel) rfl (q_move e120_119) ?_
                refine join_plan 4194303 [] (fun ρ (s122 : Bool) => ρ 125 = .bool s122) h ?_ ?_ <;> clear h
                · intro s122 H124 ρ h hE
                  have e125_125 := hE
                  refine plan_pure (i := 22) (d := 126) (S2 := 8388607) (v := .bool s122) rfl (by decide +kernel) rfl (q_move e125_125) ?_
                  refine join_plan 33554431 [] (fun ρ (s127 : Bool) => ρ 128 = .bool s127) h ?_ ?_ <;> clear h
                  · intro s127 H129 ρ h hE
                    have e130_128 := hE
                    refine plan_pure (i := 25) (d := 6) (S2 := 67108863) (v := .bool s127) rfl (by decide +kernel) rfl (q_assign e130_128) ?_
                    refine plan_done (by decide +kernel) ?_
                    exact Go.ret ⟨.inl rfl, _, _, DOk.nil, (resOk1 Try.results3 rfl), ⟨_, rfl, h⟩⟩
                  · intro j128 hj128 h
                    rcases bor s122 with hc126 | hc126
                    · have h := h.1 hc126
                      refine plan_one (j := 23) (S2 := 16777215) (by decide +kernel) rfl (by decide) (want_yes rfl rfl rfl hc126) ?_
                      refine do_call2 body7 (keelsonlaw11_awake_s _ _ h) rfl ?_
                      rintro _ H131 ⟨y132, rfl, h⟩
                      refine ⟨_, rfl, ?_⟩
                      refine plan_pure (i := 24) (d := 128) (S2 := 33554431) (v := .bool y132) rfl (by decide +kernel) rfl (q_pickT (btT rfl hc126) rfl) ?_
                      exact hj128 _ _ _ h rfl
                    · have h := h.2 hc126
                      refine plan_skip (i := 23) (d := 127) (S2 := 16777215) rfl (by decide +kernel) (want_no rfl rfl rfl hc126) ?_
                      refine plan_pure (i := 24) (d := 128) (S2 := 33554431) (v := .bool false) rfl (by decide +kernel) rfl (q_pickF (btF rfl hc126) rfl) ?_
                      exact hj128 _ _ _ h rfl
                · intro j123 hj123 h
                  rcases bor s117 with hc121 | hc121
                  · have h := h.1 hc121
                    refine plan_pure (i := 17) (d := 121) (S2 := 262143) (v := .pointer y10) rfl (by decide +kernel) (want_yes rfl rfl rfl hc121) (q_move e120_7) ?_
                    refine plan_pure (i := 19) (d := 123) (S2 := 786431) (v := Sl.v s91.1) rfl (by decide +kernel) (want_yes rfl rfl rfl hc121) (q_move e120_15) ?_
                    refine plan_one (j := 18) (S2 := 1048575) (by decide +kernel) rfl (by decide) (want_yes rfl rfl rfl hc121) ?_
                    refine do_call2 body13 (keelsonlaw11_dirty_s _ _ _ _ h) rfl ?_
                    rintro _ H133 ⟨y134, rfl, h⟩
                    refine ⟨_, rfl, ?_⟩
                    refine plan_one (j := 20) (S2 := 2097151) (by decide +kernel) rfl (by decide) (want_yes rfl rfl rfl hc121) ?_
                    refine do_call2 body12 (keelsonalike_Ints_s _ _ _ _ h) rfl ?_
                    rintro _ H135 ⟨y136, rfl, h⟩
                    refine ⟨_, rfl, ?_⟩
                    refine plan_pure (i := 21) (d := 125) (S2 := 4194303) (v := .bool y136) rfl (by decide +kernel) rfl (q_pickT (btT rfl hc121) rfl) ?_
                    exact hj123 _ _ _ h rfl
                  · have h := h.2 hc121
                    refine plan_skip (i := 17) (d := 121) (S2 := 262143) rfl (by decide +kernel) (want_no rfl rfl rfl hc121) ?_
                    refine plan_skip (i := 18) (d := 122) (S2 := 524287) rfl (by decide +kernel) (want_no rfl rfl rfl hc121) ?_
                    refine plan_skip (i := 19) (d := 123) (S2 := 1048575) rfl (by decide +kernel) (want_no rfl rfl rfl hc121) ?_
                    refine plan_skip (i := 20) (d := 124) (S2 := 2097151) rfl (by decide +kernel) (want_no rfl rfl rfl hc121) ?_
                    refine plan_pure (i := 21) (d := 125) (S2 := 4194303) (v := .bool false) rfl (by decide +kernel) rfl (q_pickF (btF rfl hc121) rfl) ?_
                    exact hj123 _ _ _ h rfl
              · intro j118 hj118 h
                rcases bor y115 with hc116 | hc116
                · have h := h.1 hc116
                  refine plan_pure (i := 5) (d := 109) (S2 := 63) (v := .pointer y10) rfl (by decide +kernel) (want_yes rfl rfl rfl hc116) (q_move e93_7) ?_
                  refine plan_pure (i := 6) (d := 110) (S2 := 127) (v := .int .i64 y111) rfl (by decide +kernel) (want_yes rfl rfl rfl hc116) (q_move rfl) ?_
                  refine plan_pure (i := 8) (d := 112) (S2 := 383) (v := Sl.v s91.1) rfl (by decide +kernel) (want_yes rfl rfl rfl hc116) (q_move e93_15) ?_
                  refine plan_pure (i := 9) (d := 113) (S2 := 895) (v := .int .i64 y111) rfl (by decide +kernel) (want_yes rfl rfl rfl hc116) (q_move rfl) ?_
                  refine plan_pure (i := 10) (d := 114) (S2 := 1919) (v := Sl.v s91.1) rfl (by decide +kernel) (want_yes rfl rfl rfl hc116) (q_move e93_15) ?_
                  refine plan_pure (i := 11) (d := 115) (S2 := 3967) (v := .int .i64 (s91.1.len : Int)) rfl (by decide +kernel) (want_yes rfl rfl rfl hc116) (q_len Try.underlying31 rfl (ls1 rfl)) ?_
                  refine plan_pure (i := 12) (d := 116) (S2 := 8063) (v := .int .i64 (if (s91.1.len : Int) < y111 then (s91.1.len : Int) else y111)) rfl (by decide +kernel) (want_yes rfl rfl rfl hc116) (q_min2 rfl) ?_
                  obtain ⟨r138, hm137, h⟩ := h
                  refine plan_pure (i := 13) (d := 117) (S2 := 16255) (v := Sl.v r138) rfl (by decide +kernel) (want_yes rfl rfl rfl hc116) (q_cut slice31 hm137 rfl rfl ⟨_, rfl⟩) ?_
                  refine plan_one (j := 7) (S2 := 16383) (by decide +kernel) rfl (by decide) (want_yes rfl rfl rfl hc116) ?_
                  refine do_call2 body13 (keelsonlaw11_dirty_s _ _ _ _ h) rfl ?_
                  rintro _ H139 ⟨y140, rfl, h⟩
                  refine ⟨_, rfl, ?_⟩
                  refine plan_one (j := 14) (S2 := 32767) (by decide +kernel) rfl (by decide) (want_yes rfl rfl rfl hc116) ?_
                  refine do_call2 body12 (keelsonalike_Ints_s _ _ _ _ h) rfl ?_
                  rintro _ H141 ⟨y142, rfl, h⟩
                  refine ⟨_, rfl, ?_⟩
                  refine plan_pure (i := 15) (d := 119) (S2 := 65535) (v := .bool y142) rfl (by decide +kernel) rfl (q_pickT (btT rfl hc116) rfl) ?_
                  exact hj118 _ _ _ h ⟨e93_7, e93_15, rfl⟩
                · have h := h.2 hc116
                  refine plan_skip (i := 5) (d := 109) (S2 := 63) rfl (by decide +kernel) (want_no rfl rfl rfl hc116) ?_
                  refine plan_skip (i := 6) (d := 110) (S2 := 127) rfl (by decide +kernel) (want_no rfl rfl rfl hc116) ?_
                  refine plan_skip (i := 7) (d := 111) (S2 := 255) rfl (by decide +kernel) (want_no rfl rfl rfl hc116) ?_
                  refine plan_skip (i := 8) (d := 112) (S2 := 511) rfl (by decide +kernel) (want_no rfl rfl rfl hc116) ?_
                  refine plan_skip (i := 9) (d := 113) (S2 := 1023) rfl (by decide +kernel) (want_no rfl rfl rfl hc116) ?_
                  refine plan_skip (i := 10) (d := 114) (S2 := 2047) rfl (by decide +kernel) (want_no rfl rfl rfl hc116) ?_
                  refine plan_skip (i := 11) (d := 115) (S2 := 4095) rfl (by decide +kernel) (want_no rfl rfl rfl hc116) ?_
                  refine plan_skip (i := 12) (d := 116) (S2 := 8191) rfl (by decide +kernel) (want_no rfl rfl rfl hc116) ?_
                  refine plan_skip (i := 13) (d := 117) (S2 := 16383) rfl (by decide +kernel) (want_no rfl rfl rfl hc116) ?_
                  refine plan_skip (i := 14) (d := 118) (S2 := 32767) rfl (by decide +kernel) (want_no rfl rfl rfl hc116) ?_
                  refine plan_pure (i := 15) (d := 119) (S2 := 65535) (v := .bool false) rfl (by decide +kernel) rfl (q_pickF (btF rfl hc116) rfl) ?_
                  exact hj118 _ _ _ h ⟨e93_7, e93_15, rfl⟩
  · intro j3 hj3 h
    rcases bor (decide (40 < (p0.len : Int))) with hc1 | hc1
    · have h := h.1 hc1
      refine no_dst (want_no rfl rfl rfl hc1) rfl (by decide) ?_
      refine no_dst (want_no rfl rfl rfl hc1) rfl (by decide) ?_
      refine no_dst (want_no rfl rfl rfl hc1) rfl (by decide) ?_
      refine GoOps.q (v := .bool true) rfl rfl (by decide) (q_pickT (btT rfl hc1) rfl) ?_
      exact hj3 true _ _ h (by exact ⟨rfl, rfl, rfl, rfl⟩)
    · have h := h.2 hc1
      refine GoOps.q (v := Sl.v p1) (want_yes rfl rfl rfl hc1) rfl (by decide) (q_move rfl) ?_
      refine GoOps.q (v := .int .i64 (p1.len : Int)) (want_yes rfl rfl rfl hc1) rfl (by decide) (q_len Try.underlying22 rfl (ls1 rfl)) ?_
      refine GoOps.q (v := .bool (decide (40 < (p1.len : Int)))) (want_yes rfl rfl rfl hc1) rfl (by decide) (q_gtr rfl rfl) ?_
      refine GoOps.q (v := .bool (decide (40 < (p1.len : Int)))) rfl rfl (by decide) (q_pickF (btF rfl hc1) rfl) ?_
      exact hj3 (decide (40 < (p1.len : Int))) _ _ h (by exact ⟨rfl, rfl, rfl, rfl⟩)

/-- slices.Repeat[[]string,string] -/
def slices_Repeat_Slstring_string (p0 : Sl) (p1 : Int) (H : PH) (Q : Sl → PH → Prop) : Prop :=
  mJoin (fun (s1 : Unit) (H3 : PH) =>
  bits_Mul (IntKind.wrap .u64 (p0.len : Int)) (IntKind.wrap .u64 p1) H3 fun y6 y7 H5 =>
  mJoin (fun (s9 : Bool) (H11 : PH) =>
  mJoin (fun (s13 : Unit) (H15 : PH) =>
  mMk H15 9 16 [.string ⟨#[]⟩] (IntKind.wrap .i64 y7) (IntKind.wrap .i64 y7) fun r17 H18 =>
  mCopy H18 1 r17 p0 fun x21 H22 =>
  mLoop (fun (s23 : Int) (H26 : PH) (again24 : Int → PH → Prop) =>
  mIf (decide (s23 < (r17.len : Int)))
  (mCut r17 1 s23 (r17.len : Int) fun r29 =>
  mCut r17 1 0 s23 fun r31 =>
  mCopy H26 1 r29 r31 fun x32 H33 =>
  again24 (IntKind.wrap .i64 (s23 + x32)) H33)
  (Q r17 H26))
  x21 H22)
  fun j14 =>
  mIf s9
  (False)
  (j14 () H11))
  fun j10 =>
  mIf (decide (0 < y6))
  (j10 true H5)
  (j10 (decide (9223372036854775807 < y7)) H5))
  fun j2 =>
  mIf (decide (p1 < 0))
  (False)
  (j2 () H)

set_option maxRecDepth 20000 in
set_option maxHeartbeats 1000000 in
theorem slices_Repeat_Slstring_string_s (p0 : Sl) (p1 : Int) (H : PH) (Q : Sl → PH → Prop) (h : slices_Repeat_Slstring_string p0 p1 H Q) :
    CallsH Try.prog 30 #[Sl.v p0, .int .i64 p1] H (fun v H' => ∃ (r0 : Sl), v = Sl.v r0 ∧ Q r0 H') := by
  unfold slices_Repeat_Slstring_string at h
  refine callsH_of_go Try.func30 rfl Try.ntmps30 (Nat.le_of_ble_eq_true rfl) ?_
  refine Go.seq ?_
  refine Go.region rfl ?_
  refine GoOps.q (v := Sl.v Sl.nil) rfl rfl (by decide) (q_assign rfl) ?_
  refine GoOps.nil ?_
  refine Go.seq ?_
  refine Go.seq ?_
  refine Go.region rfl ?_
  refine GoOps.q (v := .int .i64 p1) rfl rfl (by decide) (q_move rfl) ?_
  refine GoOps.q (v := .bool (decide (p1 < 0))) rfl rfl (by decide) (q_lss rfl rfl) ?_
  refine GoOps.nil ?_
  refine join_go 1 (fun ρ (s1 : Unit) => ρ 0 = Sl.v p0 ∧ ρ 1 = .int .i64 p1) h ?_ ?_ <;> clear h
  · intro s1 H3 ρ h hE
    obtain ⟨e4_0, e4_1⟩ := hE
    refine Go.seq ?_
    refine Go.region rfl ?_
    refine GoOps.q (v := Sl.v p0) rfl rfl (by decide) (q_move e4_0) ?_
    refine GoOps.q (v := .int .i64 (p0.len : Int)) rfl rfl (by decide) (q_len Try.underlying35 rfl (ls1 rfl)) ?_
    refine GoOps.q (v := .int .u64 (IntKind.wrap .u64 (p0.len : Int))) rfl rfl (by decide) (q_conv Try.underlying3 Try.underlying69 rfl) ?_
    refine GoOps.q (v := .int .i64 p1) rfl rfl (by decide) (q_move e4_1) ?_
    refine GoOps.q (v := .int .u64 (IntKind.wrap .u64 p1)) rfl rfl (by decide) (q_conv Try.underlying3 Try.underlying69 rfl) ?_
    refine call_dst rfl (by decide) body37 (bits_Mul_s _ _ _ _ h) rfl ?_
    rintro _ H5 ⟨y6, y7, rfl, h⟩
    refine GoOps.q (v := .tuple #[.int .u64 y6, .int .u64 y7]) rfl rfl (by decide) (q_move rfl) ?_
    refine GoOps.q (v := .int .u64 y6) rfl rfl (by decide) (q_extract rfl rfl) ?_
    refine GoOps.q (v := .int .u64 y7) rfl rfl (by decide) (q_extract rfl rfl) ?_
    refine GoOps.q (v := .int .u64 y6) rfl rfl (by decide) (q_assign rfl) ?_
    refine GoOps.q (v := .int .u64 y7) rfl rfl (by decide) (q_assign rfl) ?_
    refine GoOps.nil ?_
    refine Go.seq ?_
    refine Go.seq ?_
    refine Go.region rfl ?_
    refine GoOps.q (v := .int .u64 y6) rfl rfl (by decide) (q_move rfl) ?_
    refine GoOps.q (v := .bool (decide (0 < y6))) rfl rfl (by decide) (q_gtr rfl rfl) ?_
    refine GoOps.q (v := .bool (decide (0 < y6))) rfl rfl (by decide) (q_move rfl) ?_
    refine join_ops 3 (fun ρ (s9 : Bool) => ρ 0 = Sl.v p0 ∧ ρ 6 = .int .u64 y7 ∧ ρ 26 = .bool s9) h ?_ ?_ <;> clear h
    · intro s9 H11 ρ h hE
      obtain ⟨e12_0, e12_6, e12_26⟩ := hE
      refine GoOps.nil ?_
      refine join_go 1 (fun ρ (s13 : Unit) => ρ 0 = Sl.v p0 ∧ ρ 6 = .int .u64 y7) h ?_ ?_ <;> clear h
      · intro s13 H15 ρ h hE
        obtain ⟨e16_0, e16_6⟩ := hE
        refine Go.seq ?_
        refine Go.region rfl ?_
        refine GoOps.q (v := .int .u64 y7) rfl rfl (by decide) (q_move e16_6) ?_
        refine GoOps.q (v := .int .i64 (IntKind.wrap .i64 y7)) rfl rfl (by decide) (q_conv Try.underlying69 Try.underlying3 rfl) ?_
        obtain ⟨hm20, h⟩ := h
        refine op_dst rfl rfl (by decide) (do_mk (zs := [.string ⟨#[]⟩]) slice35 bytes9 (by decide) zero9 rfl rfl (by decide) rfl rfl hm20 fun r17 H18 hb19 => ?_) 
        have h := h r17 H18 hb19
        refine GoOps.q (v := Sl.v r17) rfl rfl (by decide) (q_assign rfl) ?_
        refine GoOps.nil ?_
        refine Go.seq ?_
        refine Go.region rfl ?_
        refine GoOps.q (v := Sl.v r17) rfl rfl (by decide) (q_move rfl) ?_
        refine GoOps.q (v := Sl.v p0) rfl rfl (by decide) (q_move e16_0) ?_
        refine op_dst rfl rfl (by decide) (do_copy slice35 rfl rfl h fun x21 H22 h => ?_) 
        refine GoOps.q (v := .int .i64 x21) rfl rfl (by decide) (q_assign rfl) ?_
        refine GoOps.nil ?_
        refine Go.seq ?_
        refine Go.block ?_
        refine loop_go (fun ρ (s23 : Int) => ρ 7 = Sl.v r17 ∧ ρ 8 = .int .i64 s23) h ⟨rfl, rfl⟩ ?_
        clear h
        intro ρ s23 H26 again24 hE h hagain24
        obtain ⟨e25_7, e25_8⟩ := hE
        refine Go.seq ?_
        refine Go.seq ?_
        refine Go.region rfl ?_
        refine GoOps.q (v := .int .i64 s23) rfl rfl (by decide) (q_move e25_8) ?_
        refine GoOps.q (v := Sl.v r17) rfl rfl (by decide) (q_move e25_7) ?_
        refine GoOps.q (v := .int .i64 (r17.len : Int)) rfl rfl (by decide) (q_len Try.underlying35 rfl (ls1 rfl)) ?_
        refine GoOps.q (v := .bool (decide (s23 < (r17.len : Int)))) rfl rfl (by decide) (q_lss rfl rfl) ?_
        refine GoOps.nil ?_
        rcases bor (decide (s23 < (r17.len : Int))) with hc27 | hc27
        · have h := h.1 hc27
          refine Go.condT (btT rfl hc27) ?_
          refine Go.skip ?_
          refine Go.block ?_
          refine Go.draw mixed ?_
          refine plan_pure (i := 0) (d := 38) (S2 := 1) (v := .int .i64 s23) rfl (by decide +kernel) rfl (q_move e25_8) ?_
          refine plan_pure (i := 1) (d := 39) (S2 := 3) (v := Sl.v r17) rfl (by decide +kernel) rfl (q_move e25_7) ?_
          refine plan_pure (i := 2) (d := 40) (S2 := 7) (v := .int .i64 s23) rfl (by decide +kernel) rfl (q_move e25_8) ?_
          obtain ⟨r29, hm28, h⟩ := h
          refine plan_pure (i := 3) (d := 41) (S2 := 15) (v := Sl.v r29) rfl (by decide +kernel) rfl (q_cut slice35 hm28 rfl ⟨_, rfl⟩ rfl) ?_
          refine plan_pure (i := 4) (d := 42) (S2 := 31) (v := Sl.v r17) rfl (by decide +kernel) rfl (q_move e25_7) ?_
          refine plan_pure (i := 5) (d := 43) (S2 := 63) (v := .int .i64 s23) rfl (by decide +kernel) rfl (q_move e25_8) ?_
          obtain ⟨r31, hm30, h⟩ := h
          refine plan_pure (i := 6) (d := 44) (S2 := 127) (v := Sl.v r31) rfl (by decide +kernel) rfl (q_cut slice35 hm30 rfl rfl ⟨_, rfl⟩) ?_
          refine plan_one (j := 7) (S2 := 255) (by decide +kernel) rfl (by decide) rfl ?_
          refine do_copy slice35 rfl rfl h fun x32 H33 h => ?_
          refine ⟨_, rfl, ?_⟩
          refine plan_pure (i := 8) (d := 46) (S2 := 511) (v := .int .i64 (IntKind.wrap .i64 (s23 + x32))) rfl (by decide +kernel) rfl (q_add rfl rfl) ?_
          refine plan_one (j := 9) (S2 := 1023) (by decide +kernel) rfl (by decide) rfl ?_
          refine OpQ.do (v := .int .i64 (IntKind.wrap .i64 (s23 + x32))) (q_assign rfl) ⟨_, rfl, ?_⟩
          refine plan_done (by decide +kernel) ?_
          refine Go.inBlock ?_
          exact hagain24 _ _ _ h ⟨e25_7, rfl⟩
        · have h := h.2 hc27
          refine Go.condF (btF rfl hc27) ?_
          refine Go.exit rfl ?_
          refine Go.seq ?_
          refine Go.region rfl ?_
          refine GoOps.q (v := Sl.v r17) rfl rfl (by decide) (q_move e25_7) ?_
          refine GoOps.q (v := Sl.v r17) rfl rfl (by decide) (q_assign rfl) ?_
          refine GoOps.nil ?_
          exact Go.ret ⟨.inl rfl, _, _, DOk.nil, (resOk1 Try.results30 rfl), ⟨_, rfl, h⟩⟩
      · intro j14 hj14 h
        rcases bor s9 with hc34 | hc34
        · have h := h.1 hc34
          refine Go.condT (btT e12_26 hc34) ?_
          refine Go.region rfl ?_
          exact h.elim
        · have h := h.2 hc34
          refine Go.condF (btF e12_26 hc34) ?_
          refine Go.skip ?_
          exact hj14 _ _ _ h ⟨e12_0, e12_6⟩
    · intro j10 hj10 h
      rcases bor (decide (0 < y6)) with hc8 | hc8
      · have h := h.1 hc8
        refine no_dst (want_no rfl rfl rfl hc8) rfl (by decide) ?_
        refine no_dst (want_no rfl rfl rfl hc8) rfl (by decide) ?_
        refine GoOps.q (v := .bool true) rfl rfl (by decide) (q_pickT (btT rfl hc8) rfl) ?_
        exact hj10 true _ _ h (by exact ⟨e4_0, rfl, rfl⟩)
      · have h := h.2 hc8
        refine GoOps.q (v := .int .u64 y7) (want_yes rfl rfl rfl hc8) rfl (by decide) (q_move rfl) ?_
        refine GoOps.q (v := .bool (decide (9223372036854775807 < y7))) (want_yes rfl rfl rfl hc8) rfl (by decide) (q_gtr rfl rfl) ?_
        refine GoOps.q (v := .bool (decide (9223372036854775807 < y7))) rfl rfl (by decide) (q_pickF (btF rfl hc8) rfl) ?_
        exact hj10 (decide (9223372036854775807 < y7)) _ _ h (by exact ⟨e4_0, rfl, rfl⟩)
  · intro j2 hj2 h
    rcases bor (decide (p1 < 0)) with hc35 | hc35
    · have h := h.1 hc35
      refine Go.condT (btT rfl hc35) ?_
      refine Go.region rfl ?_
      exact h.elim
    · have h := h.2 hc35
      refine Go.condF (btF rfl hc35) ?_
      refine Go.skip ?_
      exact hj2 _ _ _ h ⟨rfl, rfl⟩

/-- keelson.paged.New[string] -/
def paged_New_string (p0 : Int) (p1 : Int) (p2 : ByteArray) (H : PH) (Q : Option Addr → PH → Prop) : Prop :=
  mJoin (fun (s2 : Bool) (H4 : PH) =>
  mJoin (fun (s7 : Bool) (H9 : PH) =>
  mJoin (fun (s12 : Bool) (H14 : PH) =>
  mIf s12
  (Q none H14)
  (mNe p1 <|
  mBoth (MkOk 1 (IntKind.wrap .i64 (Int.tdiv (IntKind.wrap .i64 ((IntKind.wrap .i64 (p0 + p1)) - 1)) p1)) (IntKind.wrap .i64 (Int.tdiv (IntKind.wrap .i64 ((IntKind.wrap .i64 (p0 + p1)) - 1)) p1))) <|
  mNewS H14 (row [.string p2] 9) 1 fun r19 H20 =>
  slices_Repeat_Slstring_string r19 p0 H20 fun y23 H22 =>
  mNewSI H22 (row (zeros (IntKind.wrap .i64 (Int.tdiv (IntKind.wrap .i64 ((IntKind.wrap .i64 (p0 + p1)) - 1)) p1) : Int).toNat [.bool false]) 4) (IntKind.wrap .i64 (Int.tdiv (IntKind.wrap .i64 ((IntKind.wrap .i64 (p0 + p1)) - 1)) p1)) (IntKind.wrap .i64 (Int.tdiv (IntKind.wrap .i64 ((IntKind.wrap .i64 (p0 + p1)) - 1)) p1)) fun r24 H25 =>
  mNew H25 (row [Sl.v y23, .int .i64 p1, Sl.v r24] 63) fun a27 H28 =>
  Q (some a27) H28))
  fun j13 =>
  mIf s7
  (j13 true H9)
  (j13 (decide (65536 < p1)) H9))
  fun j8 =>
  mIf s2
  (j8 true H4)
  (j8 (decide (p1 < 1)) H4))
  fun j3 =>
  mIf (decide (p0 < 1))
  (j3 true H)
  (j3 (decide (65536 < p0)) H)

set_option maxRecDepth 20000 in
set_option maxHeartbeats 1000000 in
theorem paged_New_string_s (p0 : Int) (p1 : Int) (p2 : ByteArray) (H : PH) (Q : Option Addr → PH → Prop) (h : paged_New_string p0 p1 p2 H Q) :
    CallsH Try.prog 14 #[.int .i64 p0, .int .i64 p1, .string p2] H (fun v H' => ∃ (r0 : Option Addr), v = .pointer r0 ∧ Q r0 H') := by
  unfold paged_New_string at h
  refine callsH_of_go Try.func14 rfl Try.ntmps14 (Nat.le_of_ble_eq_true rfl) ?_
  refine Go.seq ?_
  refine Go.region rfl ?_
  refine GoOps.q (v := .pointer none) rfl rfl (by decide) (q_assign rfl) ?_
  refine GoOps.nil ?_
  refine Go.seq ?_
  refine Go.seq ?_
  refine Go.region rfl ?_
  refine GoOps.q (v := .int .i64 p0) rfl rfl (by decide) (q_move rfl) ?_
  refine GoOps.q (v := .bool (decide (p0 < 1))) rfl rfl (by decide) (q_lss rfl rfl) ?_
  refine GoOps.q (v := .bool (decide (p0 < 1))) rfl rfl (by decide) (q_move rfl) ?_
  refine join_ops 3 (fun ρ (s2 : Bool) => ρ 0 = .int .i64 p0 ∧ ρ 1 = .int .i64 p1 ∧ ρ 2 = .string p2 ∧ ρ 12 = .bool s2) h ?_ ?_ <;> clear h
  · intro s2 H4 ρ h hE
    obtain ⟨e5_0, e5_1, e5_2, e5_12⟩ := hE
    refine GoOps.q (v := .bool s2) rfl rfl (by decide) (q_move e5_12) ?_
    refine join_ops 3 (fun ρ (s7 : Bool) => ρ 0 = .int .i64 p0 ∧ ρ 1 = .int .i64 p1 ∧ ρ 2 = .string p2 ∧ ρ 16 = .bool s7) h ?_ ?_ <;> clear h
    · intro s7 H9 ρ h hE
      obtain ⟨e10_0, e10_1, e10_2, e10_16⟩ := hE
      refine GoOps.q (v := .bool s7) rfl rfl (by decide) (q_move e10_16) ?_
      refine join_ops 3 (fun ρ (s12 : Bool) => ρ 0 = .int .i64 p0 ∧ ρ 1 = .int .i64 p1 ∧ ρ 2 = .string p2 ∧ ρ 20 = .bool s12) h ?_ ?_ <;> clear h
      · intro s12 H14 ρ h hE
        obtain ⟨e15_0, e15_1, e15_2, e15_20⟩ := hE
        refine GoOps.nil ?_
        rcases bor s12 with hc16 | hc16
        · have h := h.1 hc16
          refine Go.condT (btT e15_20 hc16) ?_
          refine Go.seq ?_
          refine Go.region rfl ?_
          refine GoOps.q (v := .pointer none) rfl rfl (by decide) (q_assign rfl) ?_
          refine GoOps.nil ?_
          exact Go.ret ⟨.inl rfl, _, _, DOk.nil, (resOk1 Try.results14 rfl), ⟨_, rfl, h⟩⟩
        · have h := h.2 hc16
          refine Go.condF (btF e15_20 hc16) ?_
          refine Go.skip ?_
          refine Go.seq ?_
          refine Go.draw mixed ?_
          refine plan_pure (i := 0) (d := 21) (S2 := 1) (v := .string p2) rfl (by decide +kernel) rfl (q_move e15_2) ?_
          refine plan_pure (i := 2) (d := 23) (S2 := 5) (v := .int .i64 p0) rfl (by decide +kernel) rfl (q_move e15_0) ?_
          refine plan_pure (i := 4) (d := 25) (S2 := 21) (v := .int .i64 p1) rfl (by decide +kernel) rfl (q_move e15_1) ?_
          refine plan_pure (i := 5) (d := 26) (S2 := 53) (v := .int .i64 p0) rfl (by decide +kernel) rfl (q_move e15_0) ?_
          refine plan_pure (i := 6) (d := 27) (S2 := 117) (v := .int .i64 p1) rfl (by decide +kernel) rfl (q_move e15_1) ?_
          refine plan_pure (i := 7) (d := 28) (S2 := 245) (v := .int .i64 (IntKind.wrap .i64 (p0 + p1))) rfl (by decide +kernel) rfl (q_add rfl rfl) ?_
          refine plan_pure (i := 8) (d := 29) (S2 := 501) (v := .int .i64 (IntKind.wrap .i64 ((IntKind.wrap .i64 (p0 + p1)) - 1))) rfl (by decide +kernel) rfl (q_sub rfl rfl) ?_
          refine plan_pure (i := 9) (d := 30) (S2 := 1013) (v := .int .i64 p1) rfl (by decide +kernel) rfl (q_move e15_1) ?_
          obtain ⟨hn17, h⟩ := h
          refine plan_pure (i := 10) (d := 31) (S2 := 2037) (v := .int .i64 (IntKind.wrap .i64 (Int.tdiv (IntKind.wrap .i64 ((IntKind.wrap .i64 (p0 + p1)) - 1)) p1))) rfl (by decide +kernel) rfl (q_quo hn17 rfl rfl) ?_
          obtain ⟨hm18, h⟩ := h
          refine plan_step (R := [1, 11]) (by decide +kernel) ⟨?_, ?_, trivial⟩
          · refine pstep_yes (S2 := 2039) rfl (by decide +kernel) (by decide) rfl ?_
            refine do_bs (ps := [(0, .string p2)]) (zs := [.string ⟨#[]⟩]) (cs := [.string p2]) slice35 zero9 rfl rfl (by decide) (by decide) rfl rfl fun r19 H20 hb21 => ?_
            have h := h r19 H20 hb21
            refine ⟨_, rfl, ?_⟩
            refine plan_step (R := [3, 11]) (by decide +kernel) ⟨?_, ?_, trivial⟩
            · refine pstep_yes (S2 := 2047) rfl (by decide +kernel) (by decide) rfl ?_
              refine do_call2 body30 (slices_Repeat_Slstring_string_s _ _ _ _ h) rfl ?_
              rintro _ H22 ⟨y23, rfl, h⟩
              refine ⟨_, rfl, ?_⟩
              refine plan_one (j := 11) (S2 := 4095) (by decide +kernel) rfl (by decide) rfl ?_
              refine do_mk (zs := [.bool false]) slice53 bytes4 (by decide) zero4 rfl rfl (by decide) rfl rfl hm18 fun r24 H25 hb26 => ?_
              have h := h r24 H25 hb26
              refine ⟨_, rfl, ?_⟩
              refine plan_pure (i := 12) (d := 33) (S2 := 8191) (v := .agg ([Sl.v y23, .int .i64 p1, Sl.v r24] : List Value).toArray) rfl (by decide +kernel) rfl (q_build (ps := [(0, Sl.v y23), (1, .int .i64 p1), (2, Sl.v r24)]) (cs := [Sl.v y23, .int .i64 p1, Sl.v r24]) places63 zero63 rfl rfl rfl) ?_
              refine plan_one (j := 13) (S2 := 16383) (by decide +kernel) rfl (by decide) rfl ?_
              refine do_newBox (cs := [Sl.v y23, .int .i64 p1, Sl.v r24]) rfl rfl fun a27 H28 hb29 => ?_
              have h := h a27 H28 hb29
              refine ⟨_, rfl, ?_⟩
              refine plan_pure (i := 14) (d := 6) (S2 := 32767) (v := .pointer (some a27)) rfl (by decide +kernel) rfl (q_assign rfl) ?_
              refine plan_done (by decide +kernel) ?_
              exact Go.ret ⟨.inl rfl, _, _, DOk.nil, (resOk1 Try.results14 rfl), ⟨_, rfl, h⟩⟩
            · refine pstep_yes (S2 := 4087) rfl (by decide +kernel) (by decide) rfl ?_
              refine do_mkT (zs := [.bool false]) slice53 bytes4 (by decide) zero4 rfl rfl (by decide) rfl rfl hm18 fun b31 r30 hHb31 hTb31 hrb31 => ?_
              refine ⟨_, rfl, ?_⟩
              refine plan_one (j := 3) (S2 := 4095) (by decide +kernel) rfl (by decide) rfl ?_
              refine do_call2 body30 (slices_Repeat_Slstring_string_s _ _ _ _ h) rfl ?_
              rintro _ H32 ⟨y33, rfl, h⟩
              refine ⟨_, rfl, ?_⟩
              refine plan_commit hTb31 fun hh35 => ?_
              have h := h r30 _ ⟨b31, hh35, hrb31, rfl⟩
              refine plan_pure (i := 12) (d := 33) (S2 := 8191) (v := .agg ([Sl.v y33, .int .i64 p1, Sl.v r30] : List Value).toArray) rfl (by decide +kernel) rfl (q_build (ps := [(0, Sl.v y33), (1, .int .i64 p1), (2, Sl.v r30)]) (cs := [Sl.v y33, .int .i64 p1, Sl.v r30]) places63 zero63 rfl rfl rfl) ?_
              refine plan_one (j := 13) (S2 := 16383) (by decide +kernel) rfl (by decide) rfl ?_
              refine do_newBox (cs := [Sl.v y33, .int .i64 p1, Sl.v r30]) rfl rfl fun a36 H37 hb38 => ?_
              have h := h a36 H37 hb38
              refine ⟨_, rfl, ?_⟩
              refine plan_pure (i := 14) (d := 6) (S2 := 32767) (v := .pointer (some a36)) rfl (by decide +kernel) rfl (q_assign rfl) ?_
              refine plan_done (by decide +kernel) ?_
              exact Go.ret ⟨.inl rfl, _, _, DOk.nil, (resOk1 Try.results14 rfl), ⟨_, rfl, h⟩⟩
          · refine pstep_yes (S2 := 4085) rfl (by decide +kernel) (by decide) rfl ?_
            refine do_mkT (zs := [.bool false]) slice53 bytes4 (by decide) zero4 rfl rfl (by decide) rfl rfl hm18 fun b40 r39 hHb40 hTb40 hrb40 => ?_
            refine ⟨_, rfl, ?_⟩
            refine plan_one (j := 1) (S2 := 4087) (by decide +kernel) rfl (by decide) rfl ?_
            refine do_bs (ps := [(0, .string p2)]) (zs := [.string ⟨#[]⟩]) (cs := [.string p2]) slice35 zero9 rfl rfl (by decide) (by decide) rfl rfl fun r41 H42 hb43 => ?_
            have h := h r41 H42 hb43
            refine ⟨_, rfl, ?_⟩
            refine plan_one (j := 3) (S2 := 4095) (by decide +kernel) rfl (by decide) rfl ?_
            refine do_call2 body30 (slices_Repeat_Slstring_string_s _ _ _ _ h) rfl ?_
            rintro _ H44 ⟨y45, rfl, h⟩
            refine ⟨_, rfl, ?_⟩
            refine plan_commit hTb40 fun hh47 => ?_
            have h := h r39 _ ⟨b40, hh47, hrb40, rfl⟩
            refine plan_pure (i := 12) (d := 33) (S2 := 8191) (v := .agg ([Sl.v y45, .int .i64 p1, Sl.v r39] : List Value).toArray) rfl (by decide +kernel) rfl (q_build (ps := [(0, Sl.v y45), (1, .int .i64 p1), (2, Sl.v r39)]) (cs := [Sl.v y45, .int .i64 p1, Sl.v r39]) places63 zero63 rfl rfl rfl) ?_
            refine plan_one (j := 13) (S2 := 16383) (by decide +kernel) rfl (by decide) rfl ?_
            refine do_newBox (cs := [Sl.v y45, .int .i64 p1, Sl.v r39]) rfl rfl fun a48 H49 hb50 => ?_
            have h := h a48 H49 hb50
            refine ⟨_, rfl, ?_⟩
            refine plan_pure (i := 14) (d := 6) (S2 := 32767) (v := .pointer (some a48)) rfl (by decide +kernel) rfl (q_assign rfl) ?_
            refine plan_done (by decide +kernel) ?_
            exact Go.ret ⟨.inl rfl, _, _, DOk.nil, (resOk1 Try.results14 rfl), ⟨_, rfl, h⟩⟩
      · intro j13 hj13 h
        rcases bor s7 with hc11 | hc11
        · have h := h.1 hc11
          refine no_dst (want_no rfl rfl rfl hc11) rfl (by decide) ?_
          refine no_dst (want_no rfl rfl rfl hc11) rfl (by decide) ?_
          refine GoOps.q (v := .bool true) rfl rfl (by decide) (q_pickT (btT rfl hc11) rfl) ?_
          exact hj13 true _ _ h (by exact ⟨e10_0, e10_1, e10_2, rfl⟩)
        · have h := h.2 hc11
          refine GoOps.q (v := .int .i64 p1) (want_yes rfl rfl rfl hc11) rfl (by decide) (q_move e10_1) ?_
          refine GoOps.q (v := .bool (decide (65536 < p1))) (want_yes rfl rfl rfl hc11) rfl (by decide) (q_gtr rfl rfl) ?_
          refine GoOps.q (v := .bool (decide (65536 < p1))) rfl rfl (by decide) (q_pickF (btF rfl hc11) rfl) ?_
          exact hj13 (decide (65536 < p1)) _ _ h (by exact ⟨e10_0, e10_1, e10_2, rfl⟩)
    · intro j8 hj8 h
      rcases bor s2 with hc6 | hc6
      · have h := h.1 hc6
        refine no_dst (want_no rfl rfl rfl hc6) rfl (by decide) ?_
        refine no_dst (want_no rfl rfl rfl hc6) rfl (by decide) ?_
        refine GoOps.q (v := .bool true) rfl rfl (by decide) (q_pickT (btT rfl hc6) rfl) ?_
        exact hj8 true _ _ h (by exact ⟨e5_0, e5_1, e5_2, rfl⟩)
      · have h := h.2 hc6
        refine GoOps.q (v := .int .i64 p1) (want_yes rfl rfl rfl hc6) rfl (by decide) (q_move e5_1) ?_
        refine GoOps.q (v := .bool (decide (p1 < 1))) (want_yes rfl rfl rfl hc6) rfl (by decide) (q_lss rfl rfl) ?_
        refine GoOps.q (v := .bool (decide (p1 < 1))) rfl rfl (by decide) (q_pickF (btF rfl hc6) rfl) ?_
        exact hj8 (decide (p1 < 1)) _ _ h (by exact ⟨e5_0, e5_1, e5_2, rfl⟩)
  · intro j3 hj3 h
    rcases bor (decide (p0 < 1)) with hc1 | hc1
    · have h := h.1 hc1
      refine no_dst (want_no rfl rfl rfl hc1) rfl (by decide) ?_
      refine no_dst (want_no rfl rfl rfl hc1) rfl (by decide) ?_
      refine GoOps.q (v := .bool true) rfl rfl (by decide) (q_pickT (btT rfl hc1) rfl) ?_
      exact hj3 true _ _ h (by exact ⟨rfl, rfl, rfl, rfl⟩)
    · have h := h.2 hc1
      refine GoOps.q (v := .int .i64 p0) (want_yes rfl rfl rfl hc1) rfl (by decide) (q_move rfl) ?_
      refine GoOps.q (v := .bool (decide (65536 < p0))) (want_yes rfl rfl rfl hc1) rfl (by decide) (q_gtr rfl rfl) ?_
      refine GoOps.q (v := .bool (decide (65536 < p0))) rfl rfl (by decide) (q_pickF (btF rfl hc1) rfl) ?_
      exact hj3 (decide (65536 < p0)) _ _ h (by exact ⟨rfl, rfl, rfl, rfl⟩)

/-- (*keelson.paged.Paged[string]).Clean -/
def paged_Paged_string_Clean (p0 : Option Addr) (H : PH) (Q : PH → Prop) : Prop :=
  mIf (!(Option.isNone p0))
  (mNil p0 fun a2 =>
  mLd Sl.v H (a2.add 2) fun x4 =>
  mClear H 1 [.bool false] x4 fun H6 =>
  Q H6)
  (Q H)

set_option maxRecDepth 20000 in
set_option maxHeartbeats 1000000 in
theorem paged_Paged_string_Clean_s (p0 : Option Addr) (H : PH) (Q : PH → Prop) (h : paged_Paged_string_Clean p0 H Q) :
    CallsH Try.prog 15 #[.pointer p0] H (fun v H' => v = .tuple #[] ∧ Q H') := by
  unfold paged_Paged_string_Clean at h
  refine callsH_of_go Try.func15 rfl Try.ntmps15 (Nat.le_of_ble_eq_true rfl) ?_
  refine Go.seq ?_
  refine Go.region rfl ?_
  refine GoOps.q (v := .pointer p0) rfl rfl (by decide) (q_move rfl) ?_
  refine GoOps.q (v := .bool (!(Option.isNone p0))) rfl rfl (by decide) (q_neqPn Try.underlying36 rfl rfl) ?_
  refine GoOps.nil ?_
  rcases bor (!(Option.isNone p0)) with hc1 | hc1
  · have h := h.1 hc1
    refine Go.condT (btT rfl hc1) ?_
    refine Go.region rfl ?_
    refine GoOps.q (v := .pointer p0) rfl rfl (by decide) (q_move rfl) ?_
    obtain ⟨a2, ha3, h⟩ := h
    refine GoOps.q (v := .pointer (some a2)) rfl rfl (by decide) (q_nilCheck (ptn rfl ha3)) ?_
    refine GoOps.q (v := .pointer (some (a2.add 2))) rfl rfl (by decide) (q_fieldAddr foff63_2 rfl) ?_
    obtain ⟨x4, hx5, h⟩ := h
    refine GoOps.q (v := Sl.v x4) rfl rfl (by decide) (q_load scalar53 rfl hx5) ?_
    refine op_none rfl rfl (do_clear (zs := [.bool false]) slice53 zero4 rfl rfl rfl (by decide) rfl h fun H6 h => ?_) 
    refine GoOps.nil ?_
    exact Go.fall ⟨.inr rfl, _, _, DOk.nil, (resOk0 Try.results15), ⟨rfl, h⟩⟩
  · have h := h.2 hc1
    refine Go.condF (btF rfl hc1) ?_
    refine Go.skip ?_
    exact Go.fall ⟨.inr rfl, _, _, DOk.nil, (resOk0 Try.results15), ⟨rfl, h⟩⟩

/-- (*keelson.paged.Paged[string]).Len -/
def paged_Paged_string_Len (p0 : Option Addr) (H : PH) (Q : Int → PH → Prop) : Prop :=
  mIf (Option.isNone p0)
  (Q 0 H)
  (mNil p0 fun a2 =>
  mLd Sl.v H (a2.add 0) fun x4 =>
  Q (x4.len : Int) H)

set_option maxRecDepth 20000 in
set_option maxHeartbeats 1000000 in
theorem paged_Paged_string_Len_s (p0 : Option Addr) (H : PH) (Q : Int → PH → Prop) (h : paged_Paged_string_Len p0 H Q) :
    CallsH Try.prog 31 #[.pointer p0] H (fun v H' => ∃ (r0 : Int), v = .int .i64 r0 ∧ Q r0 H') := by
  unfold paged_Paged_string_Len at h
  refine callsH_of_go Try.func31 rfl Try.ntmps31 (Nat.le_of_ble_eq_true rfl) ?_
  refine Go.seq ?_
  refine Go.region rfl ?_
  refine GoOps.q (v := .int .i64 0) rfl rfl (by decide) (q_assign rfl) ?_
  refine GoOps.nil ?_
  refine Go.seq ?_
  refine Go.seq ?_
  refine Go.region rfl ?_
  refine GoOps.q (v := .pointer p0) rfl rfl (by decide) (q_move rfl) ?_
  refine GoOps.q (v := .bool (Option.isNone p0)) rfl rfl (by decide) (q_eqlPn Try.underlying36 rfl rfl) ?_
  refine GoOps.nil ?_
  rcases bor (Option.isNone p0) with hc1 | hc1
  · have h := h.1 hc1
    refine Go.condT (btT rfl hc1) ?_
    refine Go.seq ?_
    refine Go.region rfl ?_
    refine GoOps.q (v := .int .i64 0) rfl rfl (by decide) (q_assign rfl) ?_
    refine GoOps.nil ?_
    exact Go.ret ⟨.inl rfl, _, _, DOk.nil, (resOk1 Try.results31 rfl), ⟨_, rfl, h⟩⟩
  · have h := h.2 hc1
    refine Go.condF (btF rfl hc1) ?_
    refine Go.skip ?_
    refine Go.seq ?_
    refine Go.region rfl ?_
    refine GoOps.q (v := .pointer p0) rfl rfl (by decide) (q_move rfl) ?_
    obtain ⟨a2, ha3, h⟩ := h
    refine GoOps.q (v := .pointer (some a2)) rfl rfl (by decide) (q_nilCheck (ptn rfl ha3)) ?_
    refine GoOps.q (v := .pointer (some (a2.add 0))) rfl rfl (by decide) (q_fieldAddr foff63_0 rfl) ?_
    obtain ⟨x4, hx5, h⟩ := h
    refine GoOps.q (v := Sl.v x4) rfl rfl (by decide) (q_load scalar35 rfl hx5) ?_
    refine GoOps.q (v := .int .i64 (x4.len : Int)) rfl rfl (by decide) (q_len Try.underlying35 rfl (ls1 rfl)) ?_
    refine GoOps.q (v := .int .i64 (x4.len : Int)) rfl rfl (by decide) (q_assign rfl) ?_
    refine GoOps.nil ?_
    exact Go.ret ⟨.inl rfl, _, _, DOk.nil, (resOk1 Try.results31 rfl), ⟨_, rfl, h⟩⟩

/-- (*keelson.paged.Paged[string]).Get -/
def paged_Paged_string_Get (p0 : Option Addr) (p1 : Int) (H : PH) (Q : ByteArray → Bool → PH → Prop) : Prop :=
  mJoin (fun (s2 : Bool) (H4 : PH) =>
  mIf s2
  (Q (⟨#[]⟩ : ByteArray) false H4)
  (mNil p0 fun a7 =>
  mLd Sl.v H4 (a7.add 0) fun x9 =>
  mIdx x9 1 p1 fun a11 =>
  mLd .string H4 a11 fun x13 =>
  Q x13 true H4))
  fun j3 =>
  mIf (decide (p1 < 0))
  (j3 true H)
  (paged_Paged_string_Len p0 H fun y16 H15 =>
  j3 (decide (y16 ≤ p1)) H15)

set_option maxRecDepth 20000 in
set_option maxHeartbeats 1000000 in
theorem paged_Paged_string_Get_s (p0 : Option Addr) (p1 : Int) (H : PH) (Q : ByteArray → Bool → PH → Prop) (h : paged_Paged_string_Get p0 p1 H Q) :
    CallsH Try.prog 18 #[.pointer p0, .int .i64 p1] H (fun v H' => ∃ (r0 : ByteArray) (r1 : Bool), v = .tuple #[.string r0, .bool r1] ∧ Q r0 r1 H') := by
  unfold paged_Paged_string_Get at h
  refine callsH_of_go Try.func18 rfl Try.ntmps18 (Nat.le_of_ble_eq_true rfl) ?_
  refine Go.seq ?_
  refine Go.region rfl ?_
  refine GoOps.q (v := .string (⟨#[]⟩ : ByteArray)) rfl rfl (by decide) (q_assign rfl) ?_
  refine GoOps.q (v := .bool false) rfl rfl (by decide) (q_assign rfl) ?_
  refine GoOps.nil ?_
  refine Go.seq ?_
  refine Go.seq ?_
  refine Go.region rfl ?_
  refine GoOps.q (v := .int .i64 p1) rfl rfl (by decide) (q_move rfl) ?_
  refine GoOps.q (v := .bool (decide (p1 < 0))) rfl rfl (by decide) (q_lss rfl rfl) ?_
  refine GoOps.q (v := .bool (decide (p1 < 0))) rfl rfl (by decide) (q_move rfl) ?_
  refine join_ops 5 (fun ρ (s2 : Bool) => ρ 0 = .pointer p0 ∧ ρ 1 = .int .i64 p1 ∧ ρ 4 = .string (⟨#[]⟩ : ByteArray) ∧ ρ 13 = .bool s2) h ?_ ?_ <;> clear h
  · intro s2 H4 ρ h hE
    obtain ⟨e5_0, e5_1, e5_4, e5_13⟩ := hE
    refine GoOps.nil ?_
    rcases bor s2 with hc6 | hc6
    · have h := h.1 hc6
      refine Go.condT (btT e5_13 hc6) ?_
      refine Go.seq ?_
      refine Go.region rfl ?_
      refine GoOps.q (v := .string (⟨#[]⟩ : ByteArray)) rfl rfl (by decide) (q_move e5_4) ?_
      refine GoOps.q (v := .string (⟨#[]⟩ : ByteArray)) rfl rfl (by decide) (q_assign rfl) ?_
      refine GoOps.q (v := .bool false) rfl rfl (by decide) (q_assign rfl) ?_
      refine GoOps.nil ?_
      exact Go.ret ⟨.inl rfl, _, _, DOk.nil, (resOk2 Try.results18 rfl rfl), ⟨_, _, rfl, h⟩⟩
    · have h := h.2 hc6
      refine Go.condF (btF e5_13 hc6) ?_
      refine Go.skip ?_
      refine Go.seq ?_
      refine Go.region rfl ?_
      refine GoOps.q (v := .pointer p0) rfl rfl (by decide) (q_move e5_0) ?_
      obtain ⟨a7, ha8, h⟩ := h
      refine GoOps.q (v := .pointer (some a7)) rfl rfl (by decide) (q_nilCheck (ptn rfl ha8)) ?_
      refine GoOps.q (v := .pointer (some (a7.add 0))) rfl rfl (by decide) (q_fieldAddr foff63_0 rfl) ?_
      obtain ⟨x9, hx10, h⟩ := h
      refine GoOps.q (v := Sl.v x9) rfl rfl (by decide) (q_load scalar35 rfl hx10) ?_
      refine GoOps.q (v := .int .i64 p1) rfl rfl (by decide) (q_move e5_1) ?_
      obtain ⟨a11, ha12, h⟩ := h
      refine GoOps.q (v := .pointer (some a11)) rfl rfl (by decide) (q_idx slice35 ha12 rfl rfl) ?_
      obtain ⟨x13, hx14, h⟩ := h
      refine GoOps.q (v := .string x13) rfl rfl (by decide) (q_load scalar9 rfl hx14) ?_
      refine GoOps.q (v := .string x13) rfl rfl (by decide) (q_assign rfl) ?_
      refine GoOps.q (v := .bool true) rfl rfl (by decide) (q_assign rfl) ?_
      refine GoOps.nil ?_
      exact Go.ret ⟨.inl rfl, _, _, DOk.nil, (resOk2 Try.results18 rfl rfl), ⟨_, _, rfl, h⟩⟩
  · intro j3 hj3 h
    rcases bor (decide (p1 < 0)) with hc1 | hc1
    · have h := h.1 hc1
      refine no_dst (want_no rfl rfl rfl hc1) rfl (by decide) ?_
      refine no_dst (want_no rfl rfl rfl hc1) rfl (by decide) ?_
      refine no_dst (want_no rfl rfl rfl hc1) rfl (by decide) ?_
      refine no_dst (want_no rfl rfl rfl hc1) rfl (by decide) ?_
      refine GoOps.q (v := .bool true) rfl rfl (by decide) (q_pickT (btT rfl hc1) rfl) ?_
      exact hj3 true _ _ h (by exact ⟨rfl, rfl, rfl, rfl⟩)
    · have h := h.2 hc1
      refine GoOps.q (v := .int .i64 p1) (want_yes rfl rfl rfl hc1) rfl (by decide) (q_move rfl) ?_
      refine GoOps.q (v := .pointer p0) (want_yes rfl rfl rfl hc1) rfl (by decide) (q_move rfl) ?_
      refine call_dst (want_yes rfl rfl rfl hc1) (by decide) body31 (paged_Paged_string_Len_s _ _ _ h) rfl ?_
      rintro _ H15 ⟨y16, rfl, h⟩
      refine GoOps.q (v := .bool (decide (y16 ≤ p1))) (want_yes rfl rfl rfl hc1) rfl (by decide) (q_geq rfl rfl) ?_
      refine GoOps.q (v := .bool (decide (y16 ≤ p1))) rfl rfl (by decide) (q_pickF (btF rfl hc1) rfl) ?_
      exact hj3 (decide (y16 ≤ p1)) _ _ h (by exact ⟨rfl, rfl, rfl, rfl⟩)

/-- (*keelson.paged.Paged[string]).Set -/
def paged_Paged_string_Set (p0 : Option Addr) (p1 : Int) (p2 : ByteArray) (H : PH) (Q : Bool → PH → Prop) : Prop :=
  paged_Paged_string_Get p0 p1 H fun y2 y3 H1 =>
  mJoin (fun (s5 : Bool) (H7 : PH) =>
  mJoin (fun (s9 : Unit) (H11 : PH) =>
  Q y3 H11)
  fun j10 =>
  mIf s5
  (mNil p0 fun a14 =>
  mLd Sl.v H7 (a14.add 0) fun x16 =>
  mNil p0 fun a18 =>
  mLd Sl.v H7 (a18.add 2) fun x20 =>
  mNil p0 fun a22 =>
  mLd (.int .i64) H7 (a22.add 1) fun x24 =>
  mNe x24 <|
  mIdx x16 1 p1 fun a27 =>
  mSt H7 a27 ([.string p2]) fun H29 =>
  mIdx x20 1 (IntKind.wrap .i64 (Int.tdiv p1 x24)) fun a31 =>
  mSt H29 a31 ([.bool true]) fun H33 =>
  j10 () H33)
  (j10 () H7))
  fun j6 =>
  mIf y3
  (j6 (!(y2.toList == p2.toList)) H1)
  (j6 false H1)

set_option maxRecDepth 20000 in
set_option maxHeartbeats 1000000 in
theorem paged_Paged_string_Set_s (p0 : Option Addr) (p1 : Int) (p2 : ByteArray) (H : PH) (Q : Bool → PH → Prop) (h : paged_Paged_string_Set p0 p1 p2 H Q) :
    CallsH Try.prog 16 #[.pointer p0, .int .i64 p1, .string p2] H (fun v H' => ∃ (r0 : Bool), v = .bool r0 ∧ Q r0 H') := by
  unfold paged_Paged_string_Set at h
  refine callsH_of_go Try.func16 rfl Try.ntmps16 (Nat.le_of_ble_eq_true rfl) ?_
  refine Go.seq ?_
  refine Go.region rfl ?_
  refine GoOps.q (v := .bool false) rfl rfl (by decide) (q_assign rfl) ?_
  refine GoOps.nil ?_
  refine Go.seq ?_
  refine Go.region rfl ?_
  refine GoOps.q (v := .pointer p0) rfl rfl (by decide) (q_move rfl) ?_
  refine GoOps.q (v := .int .i64 p1) rfl rfl (by decide) (q_move rfl) ?_
  refine call_dst rfl (by decide) body18 (paged_Paged_string_Get_s _ _ _ _ h) rfl ?_
  rintro _ H1 ⟨y2, y3, rfl, h⟩
  refine GoOps.q (v := .tuple #[.string y2, .bool y3]) rfl rfl (by decide) (q_move rfl) ?_
  refine GoOps.q (v := .string y2) rfl rfl (by decide) (q_extract rfl rfl) ?_
  refine GoOps.q (v := .bool y3) rfl rfl (by decide) (q_extract rfl rfl) ?_
  refine GoOps.q (v := .string y2) rfl rfl (by decide) (q_assign rfl) ?_
  refine GoOps.q (v := .bool y3) rfl rfl (by decide) (q_assign rfl) ?_
  refine GoOps.nil ?_
  refine Go.seq ?_
  refine Go.seq ?_
  refine Go.region rfl ?_
  refine GoOps.q (v := .bool y3) rfl rfl (by decide) (q_move rfl) ?_
  refine GoOps.q (v := .bool y3) rfl rfl (by decide) (q_move rfl) ?_
  refine join_ops 4 (fun ρ (s5 : Bool) => ρ 0 = .pointer p0 ∧ ρ 1 = .int .i64 p1 ∧ ρ 2 = .string p2 ∧ ρ 8 = .bool y3 ∧ ρ 20 = .bool s5) h ?_ ?_ <;> clear h
  · intro s5 H7 ρ h hE
    obtain ⟨e8_0, e8_1, e8_2, e8_8, e8_20⟩ := hE
    refine GoOps.nil ?_
    refine join_go 1 (fun ρ (s9 : Unit) => ρ 8 = .bool y3) h ?_ ?_ <;> clear h
    · intro s9 H11 ρ h hE
      have e12_8 := hE
      refine Go.seq ?_
      refine Go.region rfl ?_
      refine GoOps.q (v := .bool y3) rfl rfl (by decide) (q_move e12_8) ?_
      refine GoOps.q (v := .bool y3) rfl rfl (by decide) (q_assign rfl) ?_
      refine GoOps.nil ?_
      exact Go.ret ⟨.inl rfl, _, _, DOk.nil, (resOk1 Try.results16 rfl), ⟨_, rfl, h⟩⟩
    · intro j10 hj10 h
      rcases bor s5 with hc13 | hc13
      · have h := h.1 hc13
        refine Go.condT (btT e8_20 hc13) ?_
        refine Go.draw mixed ?_
        refine plan_pure (i := 0) (d := 21) (S2 := 1) (v := .pointer p0) rfl (by decide +kernel) rfl (q_move e8_0) ?_
        obtain ⟨a14, ha15, h⟩ := h
        refine plan_pure (i := 1) (d := 22) (S2 := 3) (v := .pointer (some a14)) rfl (by decide +kernel) rfl (q_nilCheck (ptn rfl ha15)) ?_
        refine plan_pure (i := 2) (d := 23) (S2 := 7) (v := .pointer (some (a14.add 0))) rfl (by decide +kernel) rfl (q_fieldAddr foff63_0 rfl) ?_
        obtain ⟨x16, hx17, h⟩ := h
        refine plan_load (i := 3) (d := 24) (S2 := 15) (v := Sl.v x16) rfl (by decide +kernel) rfl (q_load scalar35 rfl hx17) ?_
        refine plan_pure (i := 4) (d := 25) (S2 := 31) (v := .int .i64 p1) rfl (by decide +kernel) rfl (q_move e8_1) ?_
        refine plan_pure (i := 5) (d := 26) (S2 := 63) (v := .pointer p0) rfl (by decide +kernel) rfl (q_move e8_0) ?_
        obtain ⟨a18, ha19, h⟩ := h
        refine plan_pure (i := 6) (d := 27) (S2 := 127) (v := .pointer (some a18)) rfl (by decide +kernel) rfl (q_nilCheck (ptn rfl ha19)) ?_
        refine plan_pure (i := 7) (d := 28) (S2 := 255) (v := .pointer (some (a18.add 2))) rfl (by decide +kernel) rfl (q_fieldAddr foff63_2 rfl) ?_
        obtain ⟨x20, hx21, h⟩ := h
        refine plan_load (i := 8) (d := 29) (S2 := 511) (v := Sl.v x20) rfl (by decide +kernel) rfl (q_load scalar53 rfl hx21) ?_
        refine plan_pure (i := 9) (d := 30) (S2 := 1023) (v := .int .i64 p1) rfl (by decide +kernel) rfl (q_move e8_1) ?_
        refine plan_pure (i := 10) (d := 31) (S2 := 2047) (v := .pointer p0) rfl (by decide +kernel) rfl (q_move e8_0) ?_
        obtain ⟨a22, ha23, h⟩ := h
        refine plan_pure (i := 11) (d := 32) (S2 := 4095) (v := .pointer (some a22)) rfl (by decide +kernel) rfl (q_nilCheck (ptn rfl ha23)) ?_
        refine plan_pure (i := 12) (d := 33) (S2 := 8191) (v := .pointer (some (a22.add 1))) rfl (by decide +kernel) rfl (q_fieldAddr foff63_1 rfl) ?_
        obtain ⟨x24, hx25, h⟩ := h
        refine plan_load (i := 13) (d := 34) (S2 := 16383) (v := .int .i64 x24) rfl (by decide +kernel) rfl (q_load scalar3 rfl hx25) ?_
        obtain ⟨hn26, h⟩ := h
        refine plan_pure (i := 14) (d := 35) (S2 := 32767) (v := .int .i64 (IntKind.wrap .i64 (Int.tdiv p1 x24))) rfl (by decide +kernel) rfl (q_quo hn26 rfl rfl) ?_
        refine plan_pure (i := 15) (d := 36) (S2 := 65535) (v := .string p2) rfl (by decide +kernel) rfl (q_move e8_2) ?_
        obtain ⟨a27, ha28, h⟩ := h
        refine plan_pure (i := 16) (d := 37) (S2 := 131071) (v := .pointer (some a27)) rfl (by decide +kernel) rfl (q_idx slice35 ha28 rfl rfl) ?_
        refine plan_one (j := 17) (S2 := 262143) (by decide +kernel) rfl (by decide) rfl ?_
        obtain ⟨q30b, q30o, q30c, q30e, hq30a, hq30b, hq30l, hq30v, h⟩ := h
        refine do_store (vs := [.string p2]) size9 (pta rfl hq30a) rfl rfl rfl hq30v hq30b hq30l ?_
        refine ⟨_, (.inl ⟨⟨[17], by decide +kernel, rfl⟩, .inl ⟨⟨[17], by decide +kernel, rfl⟩, .inl ⟨⟨[17], by decide +kernel, rfl⟩, rfl⟩⟩⟩), ?_⟩
        obtain ⟨a31, ha32, h⟩ := h
        refine plan_pure (i := 18) (d := 38) (S2 := 524287) (v := .pointer (some a31)) rfl (by decide +kernel) rfl (q_idx slice53 ha32 rfl rfl) ?_
        refine plan_one (j := 19) (S2 := 1048575) (by decide +kernel) rfl (by decide) rfl ?_
        obtain ⟨q34b, q34o, q34c, q34e, hq34a, hq34b, hq34l, hq34v, h⟩ := h
        refine do_store (vs := [.bool true]) size4 (pta rfl hq34a) rfl rfl rfl hq34v hq34b hq34l ?_
        refine ⟨_, rfl, ?_⟩
        refine plan_done (by decide +kernel) ?_
        exact hj10 _ _ _ h e8_8
      · have h := h.2 hc13
        refine Go.condF (btF e8_20 hc13) ?_
        refine Go.skip ?_
        exact hj10 _ _ _ h e8_8
  · intro j6 hj6 h
    rcases bor y3 with hc4 | hc4
    · have h := h.1 hc4
      refine GoOps.q (v := .string y2) (want_yes rfl rfl rfl hc4) rfl (by decide) (q_move rfl) ?_
      refine GoOps.q (v := .string p2) (want_yes rfl rfl rfl hc4) rfl (by decide) (q_move rfl) ?_
      refine GoOps.q (v := .bool (!(y2.toList == p2.toList))) (want_yes rfl rfl rfl hc4) rfl (by decide) (q_neqS Try.underlying9 rfl rfl) ?_
      refine GoOps.q (v := .bool (!(y2.toList == p2.toList))) rfl rfl (by decide) (q_pickT (btT rfl hc4) rfl) ?_
      exact hj6 (!(y2.toList == p2.toList)) _ _ h (by exact ⟨rfl, rfl, rfl, rfl, rfl⟩)
    · have h := h.2 hc4
      refine no_dst (want_no rfl rfl rfl hc4) rfl (by decide) ?_
      refine no_dst (want_no rfl rfl rfl hc4) rfl (by decide) ?_
      refine no_dst (want_no rfl rfl rfl hc4) rfl (by decide) ?_
      refine GoOps.q (v := .bool false) rfl rfl (by decide) (q_pickF (btF rfl hc4) rfl) ?_
      exact hj6 false _ _ h (by exact ⟨rfl, rfl, rfl, rfl, rfl⟩)

/-- (*keelson.paged.Paged[string]).Pages -/
def paged_Paged_string_Pages (p0 : Option Addr) (H : PH) (Q : Int → PH → Prop) : Prop :=
  mIf (Option.isNone p0)
  (Q 0 H)
  (mNil p0 fun a2 =>
  mLd Sl.v H (a2.add 2) fun x4 =>
  Q (x4.len : Int) H)

set_option maxRecDepth 20000 in
set_option maxHeartbeats 1000000 in
theorem paged_Paged_string_Pages_s (p0 : Option Addr) (H : PH) (Q : Int → PH → Prop) (h : paged_Paged_string_Pages p0 H Q) :
    CallsH Try.prog 33 #[.pointer p0] H (fun v H' => ∃ (r0 : Int), v = .int .i64 r0 ∧ Q r0 H') := by
  unfold paged_Paged_string_Pages at h
  refine callsH_of_go Try.func33 rfl Try.ntmps33 (Nat.le_of_ble_eq_true rfl) ?_
  refine Go.seq ?_
  refine Go.region rfl ?_
  refine GoOps.q (v := .int .i64 0) rfl rfl (by decide) (q_assign rfl) ?_
  refine GoOps.nil ?_
  refine Go.seq ?_
  refine Go.seq ?_
  refine Go.region rfl ?_
  refine GoOps.q (v := .pointer p0) rfl rfl (by decide) (q_move rfl) ?_
  refine GoOps.q (v := .bool (Option.isNone p0)) rfl rfl (by decide) (q_eqlPn Try.underlying36 rfl rfl) ?_
  refine GoOps.nil ?_
  rcases bor (Option.isNone p0) with hc1 | hc1
  · have h := h.1 hc1
    refine Go.condT (btT rfl hc1) ?_
    refine Go.seq ?_
    refine Go.region rfl ?_
    refine GoOps.q (v := .int .i64 0) rfl rfl (by decide) (q_assign rfl) ?_
    refine GoOps.nil ?_
    exact Go.ret ⟨.inl rfl, _, _, DOk.nil, (resOk1 Try.results33 rfl), ⟨_, rfl, h⟩⟩
  · have h := h.2 hc1
    refine Go.condF (btF rfl hc1) ?_
    refine Go.skip ?_
    refine Go.seq ?_
    refine Go.region rfl ?_
    refine GoOps.q (v := .pointer p0) rfl rfl (by decide) (q_move rfl) ?_
    obtain ⟨a2, ha3, h⟩ := h
    refine GoOps.q (v := .pointer (some a2)) rfl rfl (by decide) (q_nilCheck (ptn rfl ha3)) ?_
    refine GoOps.q (v := .pointer (some (a2.add 2))) rfl rfl (by decide) (q_fieldAddr foff63_2 rfl) ?_
    obtain ⟨x4, hx5, h⟩ := h
    refine GoOps.q (v := Sl.v x4) rfl rfl (by decide) (q_load scalar53 rfl hx5) ?_
    refine GoOps.q (v := .int .i64 (x4.len : Int)) rfl rfl (by decide) (q_len Try.underlying53 rfl (ls1 rfl)) ?_
    refine GoOps.q (v := .int .i64 (x4.len : Int)) rfl rfl (by decide) (q_assign rfl) ?_
    refine GoOps.nil ?_
    exact Go.ret ⟨.inl rfl, _, _, DOk.nil, (resOk1 Try.results33 rfl), ⟨_, rfl, h⟩⟩

/-- (*keelson.paged.Paged[string]).Dirty$1 -/
def paged_Paged_string_Dirty_c1 {γ : Type} (c0 : Addr) (Y : List Value → γ → PH → (Nat → γ → PH → Prop) → Prop) (g : γ) (H : PH) (Q : Nat → γ → PH → Prop) : Prop :=
  mLd .pointer H c0 fun x1 =>
  paged_Paged_string_Pages x1 H fun y4 H3 =>
  mLoop (fun (s5 : Int × (Nat × γ)) (H8 : PH) (again6 : (Int × (Nat × γ)) → PH → Prop) =>
  mIf (decide (s5.1 < y4))
  (mLd .pointer H8 c0 fun x10 =>
  mNil x10 fun a12 =>
  mLd Sl.v H8 (a12.add 2) fun x14 =>
  mIdx x14 1 s5.1 fun a16 =>
  mLd .bool H8 a16 fun x18 =>
  mJoin (fun (s21 : Bool × (Nat × γ)) (H23 : PH) =>
  mIf s21.1
  (Q s21.2.1 s21.2.2 H23)
  (again6 (IntKind.wrap .i64 (s5.1 + 1), s21.2) H23))
  fun j22 =>
  mIf x18
  (mYield Y s5.2 [.int .i64 s5.1] H8 fun q26 H27 =>
  j22 (!(q26.1 == 0), q26) H27)
  (j22 (false, s5.2) H8))
  (Q s5.2.1 s5.2.2 H8))
  (0, (0, g)) H3

set_option maxRecDepth 20000 in
set_option maxHeartbeats 1000000 in
theorem paged_Paged_string_Dirty_c1_s {γ : Type} (c0 : Addr) (Y : List Value → γ → PH → (Nat → γ → PH → Prop) → Prop) (g : γ) (H : PH) (Q : Nat → γ → PH → Prop) (h : paged_Paged_string_Dirty_c1 c0 Y g H Q) :
    IterH Try.prog (.func (.func 32) #[] #[.pointer (some c0)]) Y g H Q := by
  unfold paged_Paged_string_Dirty_c1 at h
  refine iterH_of_goM (fi := []) (ca := [.pointer (some c0)]) body32 Try.func32 rfl Try.ntmps32 (Nat.le_of_ble_eq_true rfl) fun l Tk hd hy => ?_
  generalize hyv : Value.func (.yield l) #[] #[] = yv
  intro D M hM hB hA
  refine Go.seq ?_
  refine Go.region rfl ?_
  obtain ⟨x1, hx2, h⟩ := h
  refine GoOps.q (v := .pointer x1) rfl rfl (by decide) (q_load scalar36 rfl hx2) ?_
  refine call_dst rfl (by decide) body33 (paged_Paged_string_Pages_s _ _ _ h) rfl ?_
  rintro _ H3 ⟨y4, rfl, h⟩
  refine GoOps.q (v := .int .i64 0) rfl rfl (by decide) (q_move rfl) ?_
  refine GoOps.nil ?_
  refine Go.block ?_
  refine loop_goM (g := (0, g)) (fun s5 => s5.2) (fun ρ (s5 : Int × (Nat × γ)) => ρ 0 = yv ∧ ρ 1 = .pointer (some c0) ∧ ρ 5 = .int .i64 y4 ∧ ρ 6 = .int .i64 s5.1) hM hB hA h ⟨rfl, rfl, rfl, rfl⟩ rfl ?_
  clear h
  intro ρ s5 H8 again6 hE h hagain6
  obtain ⟨e7_0, e7_1, e7_5, e7_6⟩ := hE
  intro D M hM hB hA
  refine Go.seq ?_
  refine Go.region rfl ?_
  refine GoOps.q (v := .bool (decide (s5.1 < y4))) rfl rfl (by decide) (q_lss e7_6 e7_5) ?_
  refine GoOps.nil ?_
  refine Go.seq ?_
  rcases bor (decide (s5.1 < y4)) with hc9 | hc9
  · have h := h.1 hc9
    refine Go.condT (btT rfl hc9) ?_
    refine Go.skip ?_
    refine Go.seq ?_
    refine Go.block ?_
    refine Go.seq ?_
    refine Go.region rfl ?_
    refine GoOps.q (v := .int .i64 s5.1) rfl rfl (by decide) (q_move e7_6) ?_
    refine GoOps.q (v := .int .i64 s5.1) rfl rfl (by decide) (q_assign rfl) ?_
    refine GoOps.nil ?_
    refine Go.seq ?_
    refine Go.region rfl ?_
    obtain ⟨x10, hx11, h⟩ := h
    refine GoOps.q (v := .pointer x10) rfl rfl (by decide) (q_load scalar36 e7_1 hx11) ?_
    obtain ⟨a12, ha13, h⟩ := h
    refine GoOps.q (v := .pointer (some a12)) rfl rfl (by decide) (q_nilCheck (ptn rfl ha13)) ?_
    refine GoOps.q (v := .pointer (some (a12.add 2))) rfl rfl (by decide) (q_fieldAddr foff63_2 rfl) ?_
    obtain ⟨x14, hx15, h⟩ := h
    refine GoOps.q (v := Sl.v x14) rfl rfl (by decide) (q_load scalar53 rfl hx15) ?_
    refine GoOps.q (v := .int .i64 s5.1) rfl rfl (by decide) (q_move rfl) ?_
    obtain ⟨a16, ha17, h⟩ := h
    refine GoOps.q (v := .pointer (some a16)) rfl rfl (by decide) (q_idx slice53 ha17 rfl rfl) ?_
    obtain ⟨x18, hx19, h⟩ := h
    refine GoOps.q (v := .bool x18) rfl rfl (by decide) (q_load scalar4 rfl hx19) ?_
    refine GoOps.q (v := .bool x18) rfl rfl (by decide) (q_move rfl) ?_
    refine join_opsM (TT := fun q : Nat × γ => Tk q.1 q.2) (M := M) 5 (fun s21 => s21.2) (fun ρ (s21 : Bool × (Nat × γ)) => ρ 0 = yv ∧ ρ 1 = .pointer (some c0) ∧ ρ 5 = .int .i64 y4 ∧ ρ 6 = .int .i64 s5.1 ∧ ρ 21 = .bool s21.1) h ?_ ?_ <;> clear h
    · intro s21 H23 ρ h hE
      obtain ⟨e24_0, e24_1, e24_5, e24_6, e24_21⟩ := hE
      refine GoOps.nil ?_
      rcases bor s21.1 with hc25 | hc25
      · have h := h.1 hc25
        refine Go.condT (btT e24_21 hc25) ?_
        exact Go.retM (g := s21.2) hM hB hA ⟨.inl rfl, _, (resOk0 Try.results32), h⟩
      · have h := h.2 hc25
        refine Go.condF (btF e24_21 hc25) ?_
        refine Go.skip ?_
        refine Go.inBlock ?_
        refine Go.region rfl ?_
        refine GoOps.q (v := .int .i64 (IntKind.wrap .i64 (s5.1 + 1))) rfl rfl (by decide) (q_add e24_6 rfl) ?_
        refine GoOps.q (v := .int .i64 (IntKind.wrap .i64 (s5.1 + 1))) rfl rfl (by decide) (q_move rfl) ?_
        refine GoOps.nil ?_
        exact hagain6 (IntKind.wrap .i64 (s5.1 + 1), s21.2) _ _ h (by exact ⟨e24_0, e24_1, e24_5, rfl⟩) _ _ hM hB hA
    · intro j22 hj22 h
      rcases bor x18 with hc20 | hc20
      · have h := h.1 hc20
        refine GoOps.q (v := yv) (want_yes rfl rfl rfl hc20) rfl (by decide) (q_move e7_0) ?_
        refine GoOps.q (v := .int .i64 s5.1) (want_yes rfl rfl rfl hc20) rfl (by decide) (q_move rfl) ?_
        refine op_dst (want_yes rfl rfl rfl hc20) rfl (by decide) (do_yieldP (q := s5.2) hy hA (Eq.trans rfl hyv.symm) rfl h fun q26 H27 h => ?_) 
        refine GoOps.q (v := .bool (!(q26.1 == 0))) (want_yes rfl rfl rfl hc20) rfl (by decide) (q_not rfl) ?_
        refine GoOps.q (v := .bool (!(q26.1 == 0))) rfl rfl (by decide) (q_pickT (btT rfl hc20) rfl) ?_
        exact hj22 (!(q26.1 == 0), q26) _ _ h (by exact ⟨e7_0, e7_1, e7_5, e7_6, rfl⟩)
      · have h := h.2 hc20
        refine no_dst (want_no rfl rfl rfl hc20) rfl (by decide) ?_
        refine no_dst (want_no rfl rfl rfl hc20) rfl (by decide) ?_
        refine no_dst (want_no rfl rfl rfl hc20) rfl (by decide) ?_
        refine no_dst (want_no rfl rfl rfl hc20) rfl (by decide) ?_
        refine GoOps.q (v := .bool false) rfl rfl (by decide) (q_pickF (btF rfl hc20) rfl) ?_
        exact hj22 (false, s5.2) _ _ h (by exact ⟨e7_0, e7_1, e7_5, e7_6, rfl⟩)
  · have h := h.2 hc9
    refine Go.condF (btF rfl hc9) ?_
    refine Go.exit rfl ?_
    exact Go.fallM (g := s5.2) hM hB hA ⟨.inr rfl, _, (resOk0 Try.results32), h⟩


end Go.Proofs.Ytgnnfafidhfhfaa

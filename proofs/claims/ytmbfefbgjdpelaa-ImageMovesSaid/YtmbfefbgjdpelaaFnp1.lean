import Derived.Test.YtmbfefbgjdpelaaProg
import Derived.Test.YtmbfefbgjdpelaaKxF
import Derived.KernelRfl
set_option linter.unusedVariables false
set_option linter.unusedSimpArgs false
namespace Go.Proofs.Ytmbfefbgjdpelaa
open Go Go.Kx Go.Proofs
theorem body45 : Body Try.prog 45 := body_of Try.func45 rfl rfl
theorem slice26 : SliceOf Try.prog 26 3 1 := ⟨Try.underlying26, by kernel_rfl⟩
theorem bytes3 : BytesOf Try.prog 3 8 := by unfold BytesOf; kernel_rfl
theorem zero3 : ZeroOf Try.prog 3 (.int .i64 0) := by unfold ZeroOf; kernel_rfl
theorem mixed : Try.prog.follows .mixedOrders = true := by kernel_rfl
theorem body41 : Body Try.prog 41 := body_of Try.func41 rfl rfl
theorem slice38 : SliceOf Try.prog 38 4 1 := ⟨Try.underlying38, by kernel_rfl⟩
theorem bytes4 : BytesOf Try.prog 4 1 := by unfold BytesOf; kernel_rfl
theorem zero4 : ZeroOf Try.prog 4 (.bool false) := by unfold ZeroOf; kernel_rfl
theorem places66 : PlacesOf Try.prog 66 [(0, 1), (1, 1), (2, 1)] := ⟨_, Try.underlying66, rfl, by kernel_rfl⟩
theorem zero66 : ZeroOf Try.prog 66 (.agg ([.slice none 0 0, .int .i64 0, .slice none 0 0] : List Value).toArray) := by unfold ZeroOf; kernel_rfl
theorem body37 : Body Try.prog 37 := body_of Try.func37 rfl rfl
theorem places51 : PlacesOf Try.prog 51 [(0, 1), (1, 1)] := ⟨_, Try.underlying51, rfl, by kernel_rfl⟩
theorem zero51 : ZeroOf Try.prog 51 (.agg ([.pointer none, .pointer none] : List Value).toArray) := by unfold ZeroOf; kernel_rfl
theorem body24 : Body Try.prog 24 := body_of Try.func24 rfl rfl
theorem foff51_1 : FieldOff Try.prog 51 1 1 := ⟨_, _, 1, Try.underlying51, rfl, rfl, by kernel_rfl, by decide⟩
theorem scalar48 : Scalar Try.prog 48 := ⟨_, Try.underlying48, trivial⟩
theorem foff51_0 : FieldOff Try.prog 51 0 0 := ⟨_, _, 1, Try.underlying51, rfl, rfl, by kernel_rfl, by decide⟩
theorem foff66_0 : FieldOff Try.prog 66 0 0 := ⟨_, _, 1, Try.underlying66, rfl, rfl, by kernel_rfl, by decide⟩
theorem scalar26 : Scalar Try.prog 26 := ⟨_, Try.underlying26, trivial⟩
theorem body35 : Body Try.prog 35 := body_of Try.func35 rfl rfl
theorem body28 : Body Try.prog 28 := body_of Try.func28 rfl rfl
theorem body21 : Body Try.prog 21 := body_of Try.func21 rfl rfl
theorem scalar3 : Scalar Try.prog 3 := ⟨_, Try.underlying3, trivial⟩
theorem foff66_2 : FieldOff Try.prog 66 2 2 := ⟨_, _, 1, Try.underlying66, rfl, rfl, by kernel_rfl, by decide⟩
theorem scalar38 : Scalar Try.prog 38 := ⟨_, Try.underlying38, trivial⟩
theorem foff66_1 : FieldOff Try.prog 66 1 1 := ⟨_, _, 1, Try.underlying66, rfl, rfl, by kernel_rfl, by decide⟩
theorem size3 : (Try.prog.info? 3).map (·.size) = some 1 := by kernel_rfl
theorem size4 : (Try.prog.info? 4).map (·.size) = some 1 := by kernel_rfl
theorem body32 : Body Try.prog 32 := body_of Try.func32 rfl rfl
theorem body31 : Body Try.prog 31 := body_of Try.func31 rfl rfl
theorem body30 : Body Try.prog 30 := body_of Try.func30 rfl rfl
theorem body34 : Body Try.prog 34 := body_of Try.func34 rfl rfl
theorem body26 : Body Try.prog 26 := body_of Try.func26 rfl rfl
theorem body15 : Body Try.prog 15 := body_of Try.func15 rfl rfl
theorem body38 : Body Try.prog 38 := body_of Try.func38 rfl rfl
theorem zero26 : ZeroOf Try.prog 26 (.slice none 0 0) := by unfold ZeroOf; kernel_rfl
theorem scalar24 : Scalar Try.prog 24 := ⟨_, Try.underlying24, trivial⟩
theorem size26 : (Try.prog.info? 26).map (·.size) = some 1 := by kernel_rfl
theorem body29 : Body Try.prog 29 := body_of Try.func29 rfl rfl
theorem scalar4 : Scalar Try.prog 4 := ⟨_, Try.underlying4, trivial⟩
theorem body43 : Body Try.prog 43 := body_of Try.func43 rfl rfl
theorem body42 : Body Try.prog 42 := body_of Try.func42 rfl rfl
theorem body40 : Body Try.prog 40 := body_of Try.func40 rfl rfl
theorem body36 : Body Try.prog 36 := body_of Try.func36 rfl rfl
theorem scalar59 : Scalar Try.prog 59 := ⟨_, Try.underlying59, trivial⟩
theorem body39 : Body Try.prog 39 := body_of Try.func39 rfl rfl
theorem zero39 : ZeroOf Try.prog 39 (.slice none 0 0) := by unfold ZeroOf; kernel_rfl
theorem scalar39 : Scalar Try.prog 39 := ⟨_, Try.underlying39, trivial⟩
theorem places42 : PlacesOf Try.prog 42 [(0, 1), (1, 1)] := ⟨_, Try.underlying42, rfl, by kernel_rfl⟩
theorem zero42 : ZeroOf Try.prog 42 (.agg ([.int .i64 0, .int .i64 0] : List Value).toArray) := by unfold ZeroOf; kernel_rfl
theorem slice39 : SliceOf Try.prog 39 42 2 := ⟨Try.underlying39, by kernel_rfl⟩
theorem bytes42 : BytesOf Try.prog 42 16 := by unfold BytesOf; kernel_rfl
theorem size39 : (Try.prog.info? 39).map (·.size) = some 1 := by kernel_rfl
theorem body33 : Body Try.prog 33 := body_of Try.func33 rfl rfl
theorem body18 : Body Try.prog 18 := body_of Try.func18 rfl rfl
theorem body22 : Body Try.prog 22 := body_of Try.func22 rfl rfl
theorem body23 : Body Try.prog 23 := body_of Try.func23 rfl rfl
theorem body17 : Body Try.prog 17 := body_of Try.func17 rfl rfl
theorem body13 : Body Try.prog 13 := body_of Try.func13 rfl rfl
theorem body11 : Body Try.prog 11 := body_of Try.func11 rfl rfl
theorem body16 : Body Try.prog 16 := body_of Try.func16 rfl rfl
theorem body9 : Body Try.prog 9 := body_of Try.func9 rfl rfl
theorem body7 : Body Try.prog 7 := body_of Try.func7 rfl rfl
theorem body25 : Body Try.prog 25 := body_of Try.func25 rfl rfl
theorem body27 : Body Try.prog 27 := body_of Try.func27 rfl rfl
theorem body6 : Body Try.prog 6 := body_of Try.func6 rfl rfl
theorem slice22 : SliceOf Try.prog 22 29 3 := ⟨Try.underlying22, by kernel_rfl⟩
theorem foff29_1 : FieldOff Try.prog 29 1 1 := ⟨_, _, 1, Try.underlying29, rfl, rfl, by kernel_rfl, by decide⟩
theorem foff29_2 : FieldOff Try.prog 29 2 2 := ⟨_, _, 1, Try.underlying29, rfl, rfl, by kernel_rfl, by decide⟩
theorem foff29_0 : FieldOff Try.prog 29 0 0 := ⟨_, _, 1, Try.underlying29, rfl, rfl, by kernel_rfl, by decide⟩
theorem body10 : Body Try.prog 10 := body_of Try.func10 rfl rfl
theorem body12 : Body Try.prog 12 := body_of Try.func12 rfl rfl
theorem body14 : Body Try.prog 14 := body_of Try.func14 rfl rfl
theorem body8 : Body Try.prog 8 := body_of Try.func8 rfl rfl
theorem foff42_1 : FieldOff Try.prog 42 1 1 := ⟨_, _, 1, Try.underlying42, rfl, rfl, by kernel_rfl, by decide⟩
theorem array60 : ArrayOf Try.prog 60 2 48 1 := ⟨Try.underlying60, by kernel_rfl⟩
theorem zero60 : ZeroOf Try.prog 60 (.agg ([.pointer none, .pointer none] : List Value).toArray) := by unfold ZeroOf; kernel_rfl
theorem aggr42 : Aggr Try.prog 42 2 := ⟨⟨_, Try.underlying42, trivial⟩, by kernel_rfl⟩
theorem held42 : Try.prog.stoodInHeld 42 = false := by kernel_rfl
theorem eqg42 : Try.prog.eqGuardType Try.prog.depth 42 = false := by kernel_rfl
theorem body20 : Body Try.prog 20 := body_of Try.func20 rfl rfl
theorem body19 : Body Try.prog 19 := body_of Try.func19 rfl rfl
theorem foff42_0 : FieldOff Try.prog 42 0 0 := ⟨_, _, 1, Try.underlying42, rfl, rfl, by kernel_rfl, by decide⟩

/-- math.bits.Mul32 -/
def bits_Mul32 (p0 : Int) (p1 : Int) (H : PH) (Q : Int → Int → PH → Prop) : Prop :=
  Q (IntKind.wrap .u32 (ishr .u64 (IntKind.wrap .u64 ((IntKind.wrap .u64 p0) * (IntKind.wrap .u64 p1))) 32)) (IntKind.wrap .u32 (IntKind.wrap .u64 ((IntKind.wrap .u64 p0) * (IntKind.wrap .u64 p1)))) H

set_option maxRecDepth 20000 in
set_option maxHeartbeats 1000000 in
theorem bits_Mul32_s (p0 : Int) (p1 : Int) (H : PH) (Q : Int → Int → PH → Prop) (h : bits_Mul32 p0 p1 H Q) :
    CallsH Try.prog 44 #[.int .u32 p0, .int .u32 p1] H (fun v H' => ∃ (r0 : Int) (r1 : Int), v = .tuple #[.int .u32 r0, .int .u32 r1] ∧ Q r0 r1 H') := by
  unfold bits_Mul32 at h
  refine callsH_of_go Try.func44 rfl Try.ntmps44 (Nat.le_of_ble_eq_true rfl) ?_
  refine Go.seq ?_
  refine Go.region rfl ?_
  refine GoOps.q (v := .int .u32 0) rfl rfl (by decide) (q_assign rfl) ?_
  refine GoOps.q (v := .int .u32 0) rfl rfl (by decide) (q_assign rfl) ?_
  refine GoOps.nil ?_
  refine Go.seq ?_
  refine Go.region rfl ?_
  refine GoOps.q (v := .int .u32 p0) rfl rfl (by decide) (q_move rfl) ?_
  refine GoOps.q (v := .int .u64 (IntKind.wrap .u64 p0)) rfl rfl (by decide) (q_conv Try.underlying72 Try.underlying75 rfl) ?_
  refine GoOps.q (v := .int .u32 p1) rfl rfl (by decide) (q_move rfl) ?_
  refine GoOps.q (v := .int .u64 (IntKind.wrap .u64 p1)) rfl rfl (by decide) (q_conv Try.underlying72 Try.underlying75 rfl) ?_
  refine GoOps.q (v := .int .u64 (IntKind.wrap .u64 ((IntKind.wrap .u64 p0) * (IntKind.wrap .u64 p1)))) rfl rfl (by decide) (q_mul rfl rfl) ?_
  refine GoOps.q (v := .int .u64 (IntKind.wrap .u64 ((IntKind.wrap .u64 p0) * (IntKind.wrap .u64 p1)))) rfl rfl (by decide) (q_assign rfl) ?_
  refine GoOps.nil ?_
  refine Go.seq ?_
  refine Go.region rfl ?_
  refine GoOps.q (v := .int .u64 (IntKind.wrap .u64 ((IntKind.wrap .u64 p0) * (IntKind.wrap .u64 p1)))) rfl rfl (by decide) (q_move rfl) ?_
  refine GoOps.q (v := .int .u64 (ishr .u64 (IntKind.wrap .u64 ((IntKind.wrap .u64 p0) * (IntKind.wrap .u64 p1))) 32)) rfl rfl (by decide) (q_shr (by decide) rfl rfl) ?_
  refine GoOps.q (v := .int .u32 (IntKind.wrap .u32 (ishr .u64 (IntKind.wrap .u64 ((IntKind.wrap .u64 p0) * (IntKind.wrap .u64 p1))) 32))) rfl rfl (by decide) (q_conv Try.underlying75 Try.underlying72 rfl) ?_
  refine GoOps.q (v := .int .u64 (IntKind.wrap .u64 ((IntKind.wrap .u64 p0) * (IntKind.wrap .u64 p1)))) rfl rfl (by decide) (q_move rfl) ?_
  refine GoOps.q (v := .int .u32 (IntKind.wrap .u32 (IntKind.wrap .u64 ((IntKind.wrap .u64 p0) * (IntKind.wrap .u64 p1))))) rfl rfl (by decide) (q_conv Try.underlying75 Try.underlying72 rfl) ?_
  refine GoOps.q (v := .int .u32 (IntKind.wrap .u32 (ishr .u64 (IntKind.wrap .u64 ((IntKind.wrap .u64 p0) * (IntKind.wrap .u64 p1))) 32))) rfl rfl (by decide) (q_assign rfl) ?_
  refine GoOps.q (v := .int .u32 (IntKind.wrap .u32 (IntKind.wrap .u64 ((IntKind.wrap .u64 p0) * (IntKind.wrap .u64 p1))))) rfl rfl (by decide) (q_assign rfl) ?_
  refine GoOps.nil ?_
  exact Go.ret ⟨.inl rfl, _, _, DOk.nil, (resOk2 Try.results44 rfl rfl), ⟨_, _, rfl, h⟩⟩

/-- math.bits.Mul64 -/
def bits_Mul64 (p0 : Int) (p1 : Int) (H : PH) (Q : Int → Int → PH → Prop) : Prop :=
  Q (IntKind.wrap .u64 ((IntKind.wrap .u64 ((IntKind.wrap .u64 ((ishr .u64 p0 32) * (ishr .u64 p1 32))) + (ishr .u64 (IntKind.wrap .u64 ((IntKind.wrap .u64 ((ishr .u64 p0 32) * (iand .u64 p1 4294967295))) + (ishr .u64 (IntKind.wrap .u64 ((iand .u64 p0 4294967295) * (iand .u64 p1 4294967295))) 32))) 32))) + (ishr .u64 (IntKind.wrap .u64 ((iand .u64 (IntKind.wrap .u64 ((IntKind.wrap .u64 ((ishr .u64 p0 32) * (iand .u64 p1 4294967295))) + (ishr .u64 (IntKind.wrap .u64 ((iand .u64 p0 4294967295) * (iand .u64 p1 4294967295))) 32))) 4294967295) + (IntKind.wrap .u64 ((iand .u64 p0 4294967295) * (ishr .u64 p1 32))))) 32))) (IntKind.wrap .u64 (p0 * p1)) H

set_option maxRecDepth 20000 in
set_option maxHeartbeats 1000000 in
theorem bits_Mul64_s (p0 : Int) (p1 : Int) (H : PH) (Q : Int → Int → PH → Prop) (h : bits_Mul64 p0 p1 H Q) :
    CallsH Try.prog 45 #[.int .u64 p0, .int .u64 p1] H (fun v H' => ∃ (r0 : Int) (r1 : Int), v = .tuple #[.int .u64 r0, .int .u64 r1] ∧ Q r0 r1 H') := by
  unfold bits_Mul64 at h
  refine callsH_of_go Try.func45 rfl Try.ntmps45 (Nat.le_of_ble_eq_true rfl) ?_
  refine Go.seq ?_
  refine Go.region rfl ?_
  refine GoOps.q (v := .int .u64 0) rfl rfl (by decide) (q_assign rfl) ?_
  refine GoOps.q (v := .int .u64 0) rfl rfl (by decide) (q_assign rfl) ?_
  refine GoOps.nil ?_
  refine Go.seq ?_
  refine Go.region rfl ?_
  refine GoOps.q (v := .int .u64 p0) rfl rfl (by decide) (q_move rfl) ?_
  refine GoOps.q (v := .int .u64 (iand .u64 p0 4294967295)) rfl rfl (by decide) (q_and rfl rfl) ?_
  refine GoOps.q (v := .int .u64 (iand .u64 p0 4294967295)) rfl rfl (by decide) (q_assign rfl) ?_
  refine GoOps.nil ?_
  refine Go.seq ?_
  refine Go.region rfl ?_
  refine GoOps.q (v := .int .u64 p0) rfl rfl (by decide) (q_move rfl) ?_
  refine GoOps.q (v := .int .u64 (ishr .u64 p0 32)) rfl rfl (by decide) (q_shr (by decide) rfl rfl) ?_
  refine GoOps.q (v := .int .u64 (ishr .u64 p0 32)) rfl rfl (by decide) (q_assign rfl) ?_
  refine GoOps.nil ?_
  refine Go.seq ?_
  refine Go.region rfl ?_
  refine GoOps.q (v := .int .u64 p1) rfl rfl (by decide) (q_move rfl) ?_
  refine GoOps.q (v := .int .u64 (iand .u64 p1 4294967295)) rfl rfl (by decide) (q_and rfl rfl) ?_
  refine GoOps.q (v := .int .u64 (iand .u64 p1 4294967295)) rfl rfl (by decide) (q_assign rfl) ?_
  refine GoOps.nil ?_
  refine Go.seq ?_
  refine Go.region rfl ?_
  refine GoOps.q (v := .int .u64 p1) rfl rfl (by decide) (q_move rfl) ?_
  refine GoOps.q (v := .int .u64 (ishr .u64 p1 32)) rfl rfl (by decide) (q_shr (by decide) rfl rfl) ?_
  refine GoOps.q (v := .int .u64 (ishr .u64 p1 32)) rfl rfl (by decide) (q_assign rfl) ?_
  refine GoOps.nil ?_
  refine Go.seq ?_
  refine Go.region rfl ?_
  refine GoOps.q (v := .int .u64 (iand .u64 p0 4294967295)) rfl rfl (by decide) (q_move rfl) ?_
  refine GoOps.q (v := .int .u64 (iand .u64 p1 4294967295)) rfl rfl (by decide) (q_move rfl) ?_
  refine GoOps.q (v := .int .u64 (IntKind.wrap .u64 ((iand .u64 p0 4294967295) * (iand .u64 p1 4294967295)))) rfl rfl (by decide) (q_mul rfl rfl) ?_
  refine GoOps.q (v := .int .u64 (IntKind.wrap .u64 ((iand .u64 p0 4294967295) * (iand .u64 p1 4294967295)))) rfl rfl (by decide) (q_assign rfl) ?_
  refine GoOps.nil ?_
  refine Go.seq ?_
  refine Go.region rfl ?_
  refine GoOps.q (v := .int .u64 (ishr .u64 p0 32)) rfl rfl (by decide) (q_move rfl) ?_
  refine GoOps.q (v := .int .u64 (iand .u64 p1 4294967295)) rfl rfl (by decide) (q_move rfl) ?_
  refine GoOps.q (v := .int .u64 (IntKind.wrap .u64 ((ishr .u64 p0 32) * (iand .u64 p1 4294967295)))) rfl rfl (by decide) (q_mul rfl rfl) ?_
  refine GoOps.q (v := .int .u64 (IntKind.wrap .u64 ((iand .u64 p0 4294967295) * (iand .u64 p1 4294967295)))) rfl rfl (by decide) (q_move rfl) ?_
  refine GoOps.q (v := .int .u64 (ishr .u64 (IntKind.wrap .u64 ((iand .u64 p0 4294967295) * (iand .u64 p1 4294967295))) 32)) rfl rfl (by decide) (q_shr (by decide) rfl rfl) ?_
  refine GoOps.q (v := .int .u64 (IntKind.wrap .u64 ((IntKind.wrap .u64 ((ishr .u64 p0 32) * (iand .u64 p1 4294967295))) + (ishr .u64 (IntKind.wrap .u64 ((iand .u64 p0 4294967295) * (iand .u64 p1 4294967295))) 32)))) rfl rfl (by decide) (q_add rfl rfl) ?_
  refine GoOps.q (v := .int .u64 (IntKind.wrap .u64 ((IntKind.wrap .u64 ((ishr .u64 p0 32) * (iand .u64 p1 4294967295))) + (ishr .u64 (IntKind.wrap .u64 ((iand .u64 p0 4294967295) * (iand .u64 p1 4294967295))) 32)))) rfl rfl (by decide) (q_assign rfl) ?_
  refine GoOps.nil ?_
  refine Go.seq ?_
  refine Go.region rfl ?_
  refine GoOps.q (v := .int .u64 (IntKind.wrap .u64 ((IntKind.wrap .u64 ((ishr .u64 p0 32) * (iand .u64 p1 4294967295))) + (ishr .u64 (IntKind.wrap .u64 ((iand .u64 p0 4294967295) * (iand .u64 p1 4294967295))) 32)))) rfl rfl (by decide) (q_move rfl) ?_
  refine GoOps.q (v := .int .u64 (iand .u64 (IntKind.wrap .u64 ((IntKind.wrap .u64 ((ishr .u64 p0 32) * (iand .u64 p1 4294967295))) + (ishr .u64 (IntKind.wrap .u64 ((iand .u64 p0 4294967295) * (iand .u64 p1 4294967295))) 32))) 4294967295)) rfl rfl (by decide) (q_and rfl rfl) ?_
  refine GoOps.q (v := .int .u64 (iand .u64 (IntKind.wrap .u64 ((IntKind.wrap .u64 ((ishr .u64 p0 32) * (iand .u64 p1 4294967295))) + (ishr .u64 (IntKind.wrap .u64 ((iand .u64 p0 4294967295) * (iand .u64 p1 4294967295))) 32))) 4294967295)) rfl rfl (by decide) (q_assign rfl) ?_
  refine GoOps.nil ?_
  refine Go.seq ?_
  refine Go.region rfl ?_
  refine GoOps.q (v := .int .u64 (IntKind.wrap .u64 ((IntKind.wrap .u64 ((ishr .u64 p0 32) * (iand .u64 p1 4294967295))) + (ishr .u64 (IntKind.wrap .u64 ((iand .u64 p0 4294967295) * (iand .u64 p1 4294967295))) 32)))) rfl rfl (by decide) (q_move rfl) ?_
  refine GoOps.q (v := .int .u64 (ishr .u64 (IntKind.wrap .u64 ((IntKind.wrap .u64 ((ishr .u64 p0 32) * (iand .u64 p1 4294967295))) + (ishr .u64 (IntKind.wrap .u64 ((iand .u64 p0 4294967295) * (iand .u64 p1 4294967295))) 32))) 32)) rfl rfl (by decide) (q_shr (by decide) rfl rfl) ?_
  refine GoOps.q (v := .int .u64 (ishr .u64 (IntKind.wrap .u64 ((IntKind.wrap .u64 ((ishr .u64 p0 32) * (iand .u64 p1 4294967295))) + (ishr .u64 (IntKind.wrap .u64 ((iand .u64 p0 4294967295) * (iand .u64 p1 4294967295))) 32))) 32)) rfl rfl (by decide) (q_assign rfl) ?_
  refine GoOps.nil ?_
  refine Go.seq ?_
  refine Go.region rfl ?_
  refine GoOps.q (v := .int .u64 (iand .u64 (IntKind.wrap .u64 ((IntKind.wrap .u64 ((ishr .u64 p0 32) * (iand .u64 p1 4294967295))) + (ishr .u64 (IntKind.wrap .u64 ((iand .u64 p0 4294967295) * (iand .u64 p1 4294967295))) 32))) 4294967295)) rfl rfl (by decide) (q_move rfl) ?_
  refine GoOps.q (v := .int .u64 (iand .u64 p0 4294967295)) rfl rfl (by decide) (q_move rfl) ?_
  refine GoOps.q (v := .int .u64 (ishr .u64 p1 32)) rfl rfl (by decide) (q_move rfl) ?_
  refine GoOps.q (v := .int .u64 (IntKind.wrap .u64 ((iand .u64 p0 4294967295) * (ishr .u64 p1 32)))) rfl rfl (by decide) (q_mul rfl rfl) ?_
  refine GoOps.q (v := .int .u64 (IntKind.wrap .u64 ((iand .u64 (IntKind.wrap .u64 ((IntKind.wrap .u64 ((ishr .u64 p0 32) * (iand .u64 p1 4294967295))) + (ishr .u64 (IntKind.wrap .u64 ((iand .u64 p0 4294967295) * (iand .u64 p1 4294967295))) 32))) 4294967295) + (IntKind.wrap .u64 ((iand .u64 p0 4294967295) * (ishr .u64 p1 32)))))) rfl rfl (by decide) (q_add rfl rfl) ?_
  refine GoOps.q (v := .int .u64 (IntKind.wrap .u64 ((iand .u64 (IntKind.wrap .u64 ((IntKind.wrap .u64 ((ishr .u64 p0 32) * (iand .u64 p1 4294967295))) + (ishr .u64 (IntKind.wrap .u64 ((iand .u64 p0 4294967295) * (iand .u64 p1 4294967295))) 32))) 4294967295) + (IntKind.wrap .u64 ((iand .u64 p0 4294967295) * (ishr .u64 p1 32)))))) rfl rfl (by decide) (q_assign rfl) ?_
  refine GoOps.nil ?_
  refine Go.seq ?_
  refine Go.region rfl ?_
  refine GoOps.q (v := .int .u64 (ishr .u64 p0 32)) rfl rfl (by decide) (q_move rfl) ?_
  refine GoOps.q (v := .int .u64 (ishr .u64 p1 32)) rfl rfl (by decide) (q_move rfl) ?_
  refine GoOps.q (v := .int .u64 (IntKind.wrap .u64 ((ishr .u64 p0 32) * (ishr .u64 p1 32)))) rfl rfl (by decide) (q_mul rfl rfl) ?_
  refine GoOps.q (v := .int .u64 (ishr .u64 (IntKind.wrap .u64 ((IntKind.wrap .u64 ((ishr .u64 p0 32) * (iand .u64 p1 4294967295))) + (ishr .u64 (IntKind.wrap .u64 ((iand .u64 p0 4294967295) * (iand .u64 p1 4294967295))) 32))) 32)) rfl rfl (by decide) (q_move rfl) ?_
  refine GoOps.q (v := .int .u64 (IntKind.wrap .u64 ((IntKind.wrap .u64 ((ishr .u64 p0 32) * (ishr .u64 p1 32))) + (ishr .u64 (IntKind.wrap .u64 ((IntKind.wrap .u64 ((ishr .u64 p0 32) * (iand .u64 p1 4294967295))) + (ishr .u64 (IntKind.wrap .u64 ((iand .u64 p0 4294967295) * (iand .u64 p1 4294967295))) 32))) 32)))) rfl rfl (by decide) (q_add rfl rfl) ?_
  refine GoOps.q (v := .int .u64 (IntKind.wrap .u64 ((iand .u64 (IntKind.wrap .u64 ((IntKind.wrap .u64 ((ishr .u64 p0 32) * (iand .u64 p1 4294967295))) + (ishr .u64 (IntKind.wrap .u64 ((iand .u64 p0 4294967295) * (iand .u64 p1 4294967295))) 32))) 4294967295) + (IntKind.wrap .u64 ((iand .u64 p0 4294967295) * (ishr .u64 p1 32)))))) rfl rfl (by decide) (q_move rfl) ?_
  refine GoOps.q (v := .int .u64 (ishr .u64 (IntKind.wrap .u64 ((iand .u64 (IntKind.wrap .u64 ((IntKind.wrap .u64 ((ishr .u64 p0 32) * (iand .u64 p1 4294967295))) + (ishr .u64 (IntKind.wrap .u64 ((iand .u64 p0 4294967295) * (iand .u64 p1 4294967295))) 32))) 4294967295) + (IntKind.wrap .u64 ((iand .u64 p0 4294967295) * (ishr .u64 p1 32))))) 32)) rfl rfl (by decide) (q_shr (by decide) rfl rfl) ?_
  refine GoOps.q (v := .int .u64 (IntKind.wrap .u64 ((IntKind.wrap .u64 ((IntKind.wrap .u64 ((ishr .u64 p0 32) * (ishr .u64 p1 32))) + (ishr .u64 (IntKind.wrap .u64 ((IntKind.wrap .u64 ((ishr .u64 p0 32) * (iand .u64 p1 4294967295))) + (ishr .u64 (IntKind.wrap .u64 ((iand .u64 p0 4294967295) * (iand .u64 p1 4294967295))) 32))) 32))) + (ishr .u64 (IntKind.wrap .u64 ((iand .u64 (IntKind.wrap .u64 ((IntKind.wrap .u64 ((ishr .u64 p0 32) * (iand .u64 p1 4294967295))) + (ishr .u64 (IntKind.wrap .u64 ((iand .u64 p0 4294967295) * (iand .u64 p1 4294967295))) 32))) 4294967295) + (IntKind.wrap .u64 ((iand .u64 p0 4294967295) * (ishr .u64 p1 32))))) 32)))) rfl rfl (by decide) (q_add rfl rfl) ?_
  refine GoOps.q (v := .int .u64 (IntKind.wrap .u64 ((IntKind.wrap .u64 ((IntKind.wrap .u64 ((ishr .u64 p0 32) * (ishr .u64 p1 32))) + (ishr .u64 (IntKind.wrap .u64 ((IntKind.wrap .u64 ((ishr .u64 p0 32) * (iand .u64 p1 4294967295))) + (ishr .u64 (IntKind.wrap .u64 ((iand .u64 p0 4294967295) * (iand .u64 p1 4294967295))) 32))) 32))) + (ishr .u64 (IntKind.wrap .u64 ((iand .u64 (IntKind.wrap .u64 ((IntKind.wrap .u64 ((ishr .u64 p0 32) * (iand .u64 p1 4294967295))) + (ishr .u64 (IntKind.wrap .u64 ((iand .u64 p0 4294967295) * (iand .u64 p1 4294967295))) 32))) 4294967295) + (IntKind.wrap .u64 ((iand .u64 p0 4294967295) * (ishr .u64 p1 32))))) 32)))) rfl rfl (by decide) (q_assign rfl) ?_
  refine GoOps.nil ?_
  refine Go.seq ?_
  refine Go.region rfl ?_
  refine GoOps.q (v := .int .u64 p0) rfl rfl (by decide) (q_move rfl) ?_
  refine GoOps.q (v := .int .u64 p1) rfl rfl (by decide) (q_move rfl) ?_
  refine GoOps.q (v := .int .u64 (IntKind.wrap .u64 (p0 * p1))) rfl rfl (by decide) (q_mul rfl rfl) ?_
  refine GoOps.q (v := .int .u64 (IntKind.wrap .u64 (p0 * p1))) rfl rfl (by decide) (q_assign rfl) ?_
  refine GoOps.nil ?_
  exact Go.ret ⟨.inl rfl, _, _, DOk.nil, (resOk2 Try.results45 rfl rfl), ⟨_, _, rfl, h⟩⟩

/-- math.bits.Mul -/
def bits_Mul (p0 : Int) (p1 : Int) (H : PH) (Q : Int → Int → PH → Prop) : Prop :=
  bits_Mul64 p0 p1 H fun y2 y3 H1 =>
  Q y2 y3 H1

set_option maxRecDepth 20000 in
set_option maxHeartbeats 1000000 in
theorem bits_Mul_s (p0 : Int) (p1 : Int) (H : PH) (Q : Int → Int → PH → Prop) (h : bits_Mul p0 p1 H Q) :
    CallsH Try.prog 41 #[.int .u64 p0, .int .u64 p1] H (fun v H' => ∃ (r0 : Int) (r1 : Int), v = .tuple #[.int .u64 r0, .int .u64 r1] ∧ Q r0 r1 H') := by
  unfold bits_Mul at h
  refine callsH_of_go Try.func41 rfl Try.ntmps41 (Nat.le_of_ble_eq_true rfl) ?_
  refine Go.seq ?_
  refine Go.region rfl ?_
  refine GoOps.q (v := .int .u64 0) rfl rfl (by decide) (q_assign rfl) ?_
  refine GoOps.q (v := .int .u64 0) rfl rfl (by decide) (q_assign rfl) ?_
  refine GoOps.nil ?_
  refine Go.seq ?_
  refine Go.condF (btF rfl rfl) ?_
  refine Go.skip ?_
  refine Go.seq ?_
  refine Go.region rfl ?_
  refine GoOps.q (v := .int .u64 p0) rfl rfl (by decide) (q_move rfl) ?_
  refine GoOps.q (v := .int .u64 p1) rfl rfl (by decide) (q_move rfl) ?_
  refine call_dst rfl (by decide) body45 (bits_Mul64_s _ _ _ _ h) rfl ?_
  rintro _ H1 ⟨y2, y3, rfl, h⟩
  refine GoOps.q (v := .tuple #[.int .u64 y2, .int .u64 y3]) rfl rfl (by decide) (q_move rfl) ?_
  refine GoOps.q (v := .int .u64 y2) rfl rfl (by decide) (q_extract rfl rfl) ?_
  refine GoOps.q (v := .int .u64 y3) rfl rfl (by decide) (q_extract rfl rfl) ?_
  refine GoOps.q (v := .int .u64 y2) rfl rfl (by decide) (q_assign rfl) ?_
  refine GoOps.q (v := .int .u64 y3) rfl rfl (by decide) (q_assign rfl) ?_
  refine GoOps.nil ?_
  refine Go.seq ?_
  refine Go.region rfl ?_
  refine GoOps.q (v := .int .u64 y2) rfl rfl (by decide) (q_move rfl) ?_
  refine GoOps.q (v := .int .u64 y3) rfl rfl (by decide) (q_move rfl) ?_
  refine GoOps.q (v := .int .u64 y2) rfl rfl (by decide) (q_assign rfl) ?_
  refine GoOps.q (v := .int .u64 y3) rfl rfl (by decide) (q_assign rfl) ?_
  refine GoOps.nil ?_
  exact Go.ret ⟨.inl rfl, _, _, DOk.nil, (resOk2 Try.results41 rfl rfl), ⟨_, _, rfl, h⟩⟩

/-- slices.Repeat[[]int,int] -/
def slices_Repeat_Slint_int (p0 : Sl) (p1 : Int) (H : PH) (Q : Sl → PH → Prop) : Prop :=
  mJoin (fun (s1 : Unit) (H3 : PH) =>
  bits_Mul (IntKind.wrap .u64 (p0.len : Int)) (IntKind.wrap .u64 p1) H3 fun y6 y7 H5 =>
  mJoin (fun (s9 : Bool) (H11 : PH) =>
  mJoin (fun (s13 : Unit) (H15 : PH) =>
  mMk H15 3 8 [.int .i64 0] (IntKind.wrap .i64 y7) (IntKind.wrap .i64 y7) fun r17 H18 =>
  mCopy H18 1 r17 p0 fun x21 H22 =>
  mLoop (fun (s23 : Int) (H26 : PH) (again24 : Int → PH → Prop) =>
  mIf (decide (s23 < (r17.len : Int)))
  (mCut r17 1 s23 (r17.len : Int) fun r29 =>
  mCut r17 1 0 s23 fun r31 =>
  mCopy H26 1 r29 r31 fun x32 H33 =>
  again24 (IntKind.wrap .i64 (s23 + x32)) H33)
  (Q r17 H26))
  x21 H22)
  fun j14 =>
  mIf s9
  (False)
  (j14 () H11))
  fun j10 =>
  mIf (decide (0 < y6))
  (j10 true H5)
  (j10 (decide (9223372036854775807 < y7)) H5))
  fun j2 =>
  mIf (decide (p1 < 0))
  (False)
  (j2 () H)

set_option maxRecDepth 20000 in
set_option maxHeartbeats 1000000 in
theorem slices_Repeat_Slint_int_s (p0 : Sl) (p1 : Int) (H : PH) (Q : Sl → PH → Prop) (h : slices_Repeat_Slint_int p0 p1 H Q) :
    CallsH Try.prog 37 #[Sl.v p0, .int .i64 p1] H (fun v H' => ∃ (r0 : Sl), v = Sl.v r0 ∧ Q r0 H') := by
  unfold slices_Repeat_Slint_int at h
  refine callsH_of_go Try.func37 rfl Try.ntmps37 (Nat.le_of_ble_eq_true rfl) ?_
  refine Go.seq ?_
  refine Go.region rfl ?_
  refine GoOps.q (v := Sl.v Sl.nil) rfl rfl (by decide) (q_assign rfl) ?_
  refine GoOps.nil ?_
  refine Go.seq ?_
  refine Go.seq ?_
  refine Go.region rfl ?_
  refine GoOps.q (v := .int .i64 p1) rfl rfl (by decide) (q_move rfl) ?_
  refine GoOps.q (v := .bool (decide (p1 < 0))) rfl rfl (by decide) (q_lss rfl rfl) ?_
  refine GoOps.nil ?_
  refine join_go 1 (fun ρ (s1 : Unit) => ρ 0 = Sl.v p0 ∧ ρ 1 = .int .i64 p1) h ?_ ?_ <;> clear h
  · intro s1 H3 ρ h hE
    obtain ⟨e4_0, e4_1⟩ := hE
    refine Go.seq ?_
    refine Go.region rfl ?_
    refine GoOps.q (v := Sl.v p0) rfl rfl (by decide) (q_move e4_0) ?_
    refine GoOps.q (v := .int .i64 (p0.len : Int)) rfl rfl (by decide) (q_len Try.underlying26 rfl (ls1 rfl)) ?_
    refine GoOps.q (v := .int .u64 (IntKind.wrap .u64 (p0.len : Int))) rfl rfl (by decide) (q_conv Try.underlying3 Try.underlying68 rfl) ?_
    refine GoOps.q (v := .int .i64 p1) rfl rfl (by decide) (q_move e4_1) ?_
    refine GoOps.q (v := .int .u64 (IntKind.wrap .u64 p1)) rfl rfl (by decide) (q_conv Try.underlying3 Try.underlying68 rfl) ?_
    refine call_dst rfl (by decide) body41 (bits_Mul_s _ _ _ _ h) rfl ?_
    rintro _ H5 ⟨y6, y7, rfl, h⟩
    refine GoOps.q (v := .tuple #[.int .u64 y6, .int .u64 y7]) rfl rfl (by decide) (q_move rfl) ?_
    refine GoOps.q (v := .int .u64 y6) rfl rfl (by decide) (q_extract rfl rfl) ?_
    refine GoOps.q (v := .int .u64 y7) rfl rfl (by decide) (q_extract rfl rfl) ?_
    refine GoOps.q (v := .int .u64 y6) rfl rfl (by decide) (q_assign rfl) ?_
    refine GoOps.q (v := .int .u64 y7) rfl rfl (by decide) (q_assign rfl) ?_
    refine GoOps.nil ?_
    refine Go.seq ?_
    refine Go.seq ?_
    refine Go.region rfl ?_
    refine GoOps.q (v := .int .u64 y6) rfl rfl (by decide) (q_move rfl) ?_
    refine GoOps.q (v := .bool (decide (0 < y6))) rfl rfl (by decide) (q_gtr rfl rfl) ?_
    refine GoOps.q (v := .bool (decide (0 < y6))) rfl rfl (by decide) (q_move rfl) ?_
    refine join_ops 3 (fun ρ (s9 : Bool) => ρ 0 = Sl.v p0 ∧ ρ 6 = .int .u64 y7 ∧ ρ 26 = .bool s9) h ?_ ?_ <;> clear h
    · intro s9 H11 ρ h hE
      obtain ⟨e12_0, e12_6, e12_26⟩ := hE
      refine GoOps.nil ?_
      refine join_go 1 (fun ρ (s13 : Unit) => ρ 0 = Sl.v p0 ∧ ρ 6 = .int .u64 y7) h ?_ ?_ <;> clear h
      · intro s13 H15 ρ h hE
        obtain ⟨e16_0, e16_6⟩ := hE
        refine Go.seq ?_
        refine Go.region rfl ?_
        refine GoOps.q (v := .int .u64 y7) rfl rfl (by decide) (q_move e16_6) ?_
        refine GoOps.q (v := .int .i64 (IntKind.wrap .i64 y7)) rfl rfl (by decide) (q_conv Try.underlying68 Try.underlying3 rfl) ?_
        obtain ⟨hm20, h⟩ := h
        refine op_dst rfl rfl (by decide) (do_mk (zs := [.int .i64 0]) slice26 bytes3 (by decide) zero3 rfl rfl (by decide) rfl rfl hm20 fun r17 H18 hb19 => ?_) 
        have h := h r17 H18 hb19
        refine GoOps.q (v := Sl.v r17) rfl rfl (by decide) (q_assign rfl) ?_
        refine GoOps.nil ?_
        refine Go.seq ?_
        refine Go.region rfl ?_
        refine GoOps.q (v := Sl.v r17) rfl rfl (by decide) (q_move rfl) ?_
        refine GoOps.q (v := Sl.v p0) rfl rfl (by decide) (q_move e16_0) ?_
        refine op_dst rfl rfl (by decide) (do_copy slice26 rfl rfl h fun x21 H22 h => ?_) 
        refine GoOps.q (v := .int .i64 x21) rfl rfl (by decide) (q_assign rfl) ?_
        refine GoOps.nil ?_
        refine Go.seq ?_
        refine Go.block ?_
        refine loop_go (fun ρ (s23 : Int) => ρ 7 = Sl.v r17 ∧ ρ 8 = .int .i64 s23) h ⟨rfl, rfl⟩ ?_
        clear h
        intro ρ s23 H26 again24 hE h hagain24
        obtain ⟨e25_7, e25_8⟩ := hE
        refine Go.seq ?_
        refine Go.seq ?_
        refine Go.region rfl ?_
        refine GoOps.q (v := .int .i64 s23) rfl rfl (by decide) (q_move e25_8) ?_
        refine GoOps.q (v := Sl.v r17) rfl rfl (by decide) (q_move e25_7) ?_
        refine GoOps.q (v := .int .i64 (r17.len : Int)) rfl rfl (by decide) (q_len Try.underlying26 rfl (ls1 rfl)) ?_
        refine GoOps.q (v := .bool (decide (s23 < (r17.len : Int)))) rfl rfl (by decide) (q_lss rfl rfl) ?_
        refine GoOps.nil ?_
        rcases bor (decide (s23 < (r17.len : Int))) with hc27 | hc27
        · have h := h.1 hc27
          refine Go.condT (btT rfl hc27) ?_
          refine Go.skip ?_
          refine Go.block ?_
          refine Go.draw mixed ?_
          refine plan_pure (i := 0) (d := 38) (S2 := 1) (v := .int .i64 s23) rfl (by decide +kernel) rfl (q_move e25_8) ?_
          refine plan_pure (i := 1) (d := 39) (S2 := 3) (v := Sl.v r17) rfl (by decide +kernel) rfl (q_move e25_7) ?_
          refine plan_pure (i := 2) (d := 40) (S2 := 7) (v := .int .i64 s23) rfl (by decide +kernel) rfl (q_move e25_8) ?_
          obtain ⟨r29, hm28, h⟩ := h
          refine plan_pure (i := 3) (d := 41) (S2 := 15) (v := Sl.v r29) rfl (by decide +kernel) rfl (q_cut slice26 hm28 rfl ⟨_, rfl⟩ rfl) ?_
          refine plan_pure (i := 4) (d := 42) (S2 := 31) (v := Sl.v r17) rfl (by decide +kernel) rfl (q_move e25_7) ?_
          refine plan_pure (i := 5) (d := 43) (S2 := 63) (v := .int .i64 s23) rfl (by decide +kernel) rfl (q_move e25_8) ?_
          obtain ⟨r31, hm30, h⟩ := h
          refine plan_pure (i := 6) (d := 44) (S2 := 127) (v := Sl.v r31) rfl (by decide +kernel) rfl (q_cut slice26 hm30 rfl rfl ⟨_, rfl⟩) ?_
          refine plan_one (j := 7) (S2 := 255) (by decide +kernel) rfl (by decide) rfl ?_
          refine do_copy slice26 rfl rfl h fun x32 H33 h => ?_
          refine ⟨_, rfl, ?_⟩
          refine plan_pure (i := 8) (d := 46) (S2 := 511) (v := .int .i64 (IntKind.wrap .i64 (s23 + x32))) rfl (by decide +kernel) rfl (q_add rfl rfl) ?_
          refine plan_one (j := 9) (S2 := 1023) (by decide +kernel) rfl (by decide) rfl ?_
          refine OpQ.do (v := .int .i64 (IntKind.wrap .i64 (s23 + x32))) (q_assign rfl) ⟨_, rfl, ?_⟩
          refine plan_done (by decide +kernel) ?_
          refine Go.inBlock ?_
          exact hagain24 _ _ _ h ⟨e25_7, rfl⟩
        · have h := h.2 hc27
          refine Go.condF (btF rfl hc27) ?_
          refine Go.exit rfl ?_
          refine Go.seq ?_
          refine Go.region rfl ?_
          refine GoOps.q (v := Sl.v r17) rfl rfl (by decide) (q_move e25_7) ?_
          refine GoOps.q (v := Sl.v r17) rfl rfl (by decide) (q_assign rfl) ?_
          refine GoOps.nil ?_
          exact Go.ret ⟨.inl rfl, _, _, DOk.nil, (resOk1 Try.results37 rfl), ⟨_, rfl, h⟩⟩
      · intro j14 hj14 h
        rcases bor s9 with hc34 | hc34
        · have h := h.1 hc34
          refine Go.condT (btT e12_26 hc34) ?_
          refine Go.region rfl ?_
          exact h.elim
        · have h := h.2 hc34
          refine Go.condF (btF e12_26 hc34) ?_
          refine Go.skip ?_
          exact hj14 _ _ _ h ⟨e12_0, e12_6⟩
    · intro j10 hj10 h
      rcases bor (decide (0 < y6)) with hc8 | hc8
      · have h := h.1 hc8
        refine no_dst (want_no rfl rfl rfl hc8) rfl (by decide) ?_
        refine no_dst (want_no rfl rfl rfl hc8) rfl (by decide) ?_
        refine GoOps.q (v := .bool true) rfl rfl (by decide) (q_pickT (btT rfl hc8) rfl) ?_
        exact hj10 true _ _ h (by exact ⟨e4_0, rfl, rfl⟩)
      · have h := h.2 hc8
        refine GoOps.q (v := .int .u64 y7) (want_yes rfl rfl rfl hc8) rfl (by decide) (q_move rfl) ?_
        refine GoOps.q (v := .bool (decide (9223372036854775807 < y7))) (want_yes rfl rfl rfl hc8) rfl (by decide) (q_gtr rfl rfl) ?_
        refine GoOps.q (v := .bool (decide (9223372036854775807 < y7))) rfl rfl (by decide) (q_pickF (btF rfl hc8) rfl) ?_
        exact hj10 (decide (9223372036854775807 < y7)) _ _ h (by exact ⟨e4_0, rfl, rfl⟩)
  · intro j2 hj2 h
    rcases bor (decide (p1 < 0)) with hc35 | hc35
    · have h := h.1 hc35
      refine Go.condT (btT rfl hc35) ?_
      refine Go.region rfl ?_
      exact h.elim
    · have h := h.2 hc35
      refine Go.condF (btF rfl hc35) ?_
      refine Go.skip ?_
      exact hj2 _ _ _ h ⟨rfl, rfl⟩

/-- keelson.paged.New[int] -/
def paged_New_int (p0 : Int) (p1 : Int) (p2 : Int) (H : PH) (Q : Option Addr → PH → Prop) : Prop :=
  mJoin (fun (s2 : Bool) (H4 : PH) =>
  mJoin (fun (s7 : Bool) (H9 : PH) =>
  mJoin (fun (s12 : Bool) (H14 : PH) =>
  mIf s12
  (Q none H14)
  (mNe p1 <|
  mBoth (MkOk 1 (IntKind.wrap .i64 (Int.tdiv (IntKind.wrap .i64 ((IntKind.wrap .i64 (p0 + p1)) - 1)) p1)) (IntKind.wrap .i64 (Int.tdiv (IntKind.wrap .i64 ((IntKind.wrap .i64 (p0 + p1)) - 1)) p1))) <|
  mNewS H14 (row [.int .i64 p2] 3) 1 fun r19 H20 =>
  slices_Repeat_Slint_int r19 p0 H20 fun y23 H22 =>
  mNewSI H22 (row (zeros (IntKind.wrap .i64 (Int.tdiv (IntKind.wrap .i64 ((IntKind.wrap .i64 (p0 + p1)) - 1)) p1) : Int).toNat [.bool false]) 4) (IntKind.wrap .i64 (Int.tdiv (IntKind.wrap .i64 ((IntKind.wrap .i64 (p0 + p1)) - 1)) p1)) (IntKind.wrap .i64 (Int.tdiv (IntKind.wrap .i64 ((IntKind.wrap .i64 (p0 + p1)) - 1)) p1)) fun r24 H25 =>
  mNew H25 (row [Sl.v y23, .int .i64 p1, Sl.v r24] 66) fun a27 H28 =>
  Q (some a27) H28))
  fun j13 =>
  mIf s7
  (j13 true H9)
  (j13 (decide (65536 < p1)) H9))
  fun j8 =>
  mIf s2
  (j8 true H4)
  (j8 (decide (p1 < 1)) H4))
  fun j3 =>
  mIf (decide (p0 < 1))
  (j3 true H)
  (j3 (decide (65536 < p0)) H)

set_option maxRecDepth 20000 in
set_option maxHeartbeats 1000000 in
theorem paged_New_int_s (p0 : Int) (p1 : Int) (p2 : Int) (H : PH) (Q : Option Addr → PH → Prop) (h : paged_New_int p0 p1 p2 H Q) :
    CallsH Try.prog 24 #[.int .i64 p0, .int .i64 p1, .int .i64 p2] H (fun v H' => ∃ (r0 : Option Addr), v = .pointer r0 ∧ Q r0 H') := by
  unfold paged_New_int at h
  refine callsH_of_go Try.func24 rfl Try.ntmps24 (Nat.le_of_ble_eq_true rfl) ?_
  refine Go.seq ?_
  refine Go.region rfl ?_
  refine GoOps.q (v := .pointer none) rfl rfl (by decide) (q_assign rfl) ?_
  refine GoOps.nil ?_
  refine Go.seq ?_
  refine Go.seq ?_
  refine Go.region rfl ?_
  refine GoOps.q (v := .int .i64 p0) rfl rfl (by decide) (q_move rfl) ?_
  refine GoOps.q (v := .bool (decide (p0 < 1))) rfl rfl (by decide) (q_lss rfl rfl) ?_
  refine GoOps.q (v := .bool (decide (p0 < 1))) rfl rfl (by decide) (q_move rfl) ?_
  refine join_ops 3 (fun ρ (s2 : Bool) => ρ 0 = .int .i64 p0 ∧ ρ 1 = .int .i64 p1 ∧ ρ 2 = .int .i64 p2 ∧ ρ 12 = .bool s2) h ?_ ?_ <;> clear h
  · intro s2 H4 ρ h hE
    obtain ⟨e5_0, e5_1, e5_2, e5_12⟩ := hE
    refine GoOps.q (v := .bool s2) rfl rfl (by decide) (q_move e5_12) ?_
    refine join_ops 3 (fun ρ (s7 : Bool) => ρ 0 = .int .i64 p0 ∧ ρ 1 = .int .i64 p1 ∧ ρ 2 = .int .i64 p2 ∧ ρ 16 = .bool s7) h ?_ ?_ <;> clear h
    · intro s7 H9 ρ h hE
      obtain ⟨e10_0, e10_1, e10_2, e10_16⟩ := hE
      refine GoOps.q (v := .bool s7) rfl rfl (by decide) (q_move e10_16) ?_
      refine join_ops 3 (fun ρ (s12 : Bool) => ρ 0 = .int .i64 p0 ∧ ρ 1 = .int .i64 p1 ∧ ρ 2 = .int .i64 p2 ∧ ρ 20 = .bool s12) h ?_ ?_ <;> clear h
      · intro s12 H14 ρ h hE
        obtain ⟨e15_0, e15_1, e15_2, e15_20⟩ := hE
        refine GoOps.nil ?_
        rcases bor s12 with hc16 | hc16
        · have h := h.1 hc16
          refine Go.condT (btT e15_20 hc16) ?_
          refine Go.seq ?_
          refine Go.region rfl ?_
          refine GoOps.q (v := .pointer none) rfl rfl (by decide) (q_assign rfl) ?_
          refine GoOps.nil ?_
          exact Go.ret ⟨.inl rfl, _, _, DOk.nil, (resOk1 Try.results24 rfl), ⟨_, rfl, h⟩⟩
        · have h := h.2 hc16
          refine Go.condF (btF e15_20 hc16) ?_
          refine Go.skip ?_
          refine Go.seq ?_
          refine Go.draw mixed ?_
          refine plan_pure (i := 0) (d := 21) (S2 := 1) (v := .int .i64 p2) rfl (by decide +kernel) rfl (q_move e15_2) ?_
          refine plan_pure (i := 2) (d := 23) (S2 := 5) (v := .int .i64 p0) rfl (by decide +kernel) rfl (q_move e15_0) ?_
          refine plan_pure (i := 4) (d := 25) (S2 := 21) (v := .int .i64 p1) rfl (by decide +kernel) rfl (q_move e15_1) ?_
          refine plan_pure (i := 5) (d := 26) (S2 := 53) (v := .int .i64 p0) rfl (by decide +kernel) rfl (q_move e15_0) ?_
          refine plan_pure (i := 6) (d := 27) (S2 := 117) (v := .int .i64 p1) rfl (by decide +kernel) rfl (q_move e15_1) ?_
          refine plan_pure (i := 7) (d := 28) (S2 := 245) (v := .int .i64 (IntKind.wrap .i64 (p0 + p1))) rfl (by decide +kernel) rfl (q_add rfl rfl) ?_
          refine plan_pure (i := 8) (d := 29) (S2 := 501) (v := .int .i64 (IntKind.wrap .i64 ((IntKind.wrap .i64 (p0 + p1)) - 1))) rfl (by decide +kernel) rfl (q_sub rfl rfl) ?_
          refine plan_pure (i := 9) (d := 30) (S2 := 1013) (v := .int .i64 p1) rfl (by decide +kernel) rfl (q_move e15_1) ?_
          obtain ⟨hn17, h⟩ := h
          refine plan_pure (i := 10) (d := 31) (S2 := 2037) (v := .int .i64 (IntKind.wrap .i64 (Int.tdiv (IntKind.wrap .i64 ((IntKind.wrap .i64 (p0 + p1)) - 1)) p1))) rfl (by decide +kernel) rfl (q_quo hn17 rfl rfl) ?_
          obtain ⟨hm18, h⟩ := h
          refine plan_step (R := [1, 11]) (by decide +kernel) ⟨?_, ?_, trivial⟩
          · refine pstep_yes (S2 := 2039) rfl (by decide +kernel) (by decide) rfl ?_
            refine do_bs (ps := [(0, .int .i64 p2)]) (zs := [.int .i64 0]) (cs := [.int .i64 p2]) slice26 zero3 rfl rfl (by decide) (by decide) rfl rfl fun r19 H20 hb21 => ?_
            have h := h r19 H20 hb21
            refine ⟨_, rfl, ?_⟩
            refine plan_step (R := [3, 11]) (by decide +kernel) ⟨?_, ?_, trivial⟩
            · refine pstep_yes (S2 := 2047) rfl (by decide +kernel) (by decide) rfl ?_
              refine do_call2 body37 (slices_Repeat_Slint_int_s _ _ _ _ h) rfl ?_
              rintro _ H22 ⟨y23, rfl, h⟩
              refine ⟨_, rfl, ?_⟩
              refine plan_one (j := 11) (S2 := 4095) (by decide +kernel) rfl (by decide) rfl ?_
              refine do_mk (zs := [.bool false]) slice38 bytes4 (by decide) zero4 rfl rfl (by decide) rfl rfl hm18 fun r24 H25 hb26 => ?_
              have h := h r24 H25 hb26
              refine ⟨_, rfl, ?_⟩
              refine plan_pure (i := 12) (d := 33) (S2 := 8191) (v := .agg ([Sl.v y23, .int .i64 p1, Sl.v r24] : List Value).toArray) rfl (by decide +kernel) rfl (q_build (ps := [(0, Sl.v y23), (1, .int .i64 p1), (2, Sl.v r24)]) (cs := [Sl.v y23, .int .i64 p1, Sl.v r24]) places66 zero66 rfl rfl rfl) ?_
              refine plan_one (j := 13) (S2 := 16383) (by decide +kernel) rfl (by decide) rfl ?_
              refine do_newBox (cs := [Sl.v y23, .int .i64 p1, Sl.v r24]) rfl rfl fun a27 H28 hb29 => ?_
              have h := h a27 H28 hb29
              refine ⟨_, rfl, ?_⟩
              refine plan_pure (i := 14) (d := 6) (S2 := 32767) (v := .pointer (some a27)) rfl (by decide +kernel) rfl (q_assign rfl) ?_
              refine plan_done (by decide +kernel) ?_
              exact Go.ret ⟨.inl rfl, _, _, DOk.nil, (resOk1 Try.results24 rfl), ⟨_, rfl, h⟩⟩
            · refine pstep_yes (S2 := 4087) rfl (by decide +kernel) (by decide) rfl ?_
              refine do_mkT (zs := [.bool false]) slice38 bytes4 (by decide) zero4 rfl rfl (by decide) rfl rfl hm18 fun b31 r30 hHb31 hTb31 hrb31 => ?_
              refine ⟨_, rfl, ?_⟩
              refine plan_one (j := 3) (S2 := 4095) (by decide +kernel) rfl (by decide) rfl ?_
              refine do_call2 body37 (slices_Repeat_Slint_int_s _ _ _ _ h) rfl ?_
              rintro _ H32 ⟨y33, rfl, h⟩
              refine ⟨_, rfl, ?_⟩
              refine plan_commit hTb31 fun hh35 => ?_
              have h := h r30 _ ⟨b31, hh35, hrb31, rfl⟩
              refine plan_pure (i := 12) (d := 33) (S2 := 8191) (v := .agg ([Sl.v y33, .int .i64 p1, Sl.v r30] : List Value).toArray) rfl (by decide +kernel) rfl (q_build (ps := [(0, Sl.v y33), (1, .int .i64 p1), (2, Sl.v r30)]) (cs := [Sl.v y33, .int .i64 p1, Sl.v r30]) places66 zero66 rfl rfl rfl) ?_
              refine plan_one (j := 13) (S2 := 16383) (by decide +kernel) rfl (by decide) rfl ?_
              refine do_newBox (cs := [Sl.v y33, .int .i64 p1, Sl.v r30]) rfl rfl fun a36 H37 hb38 => ?_
              have h := h a36 H37 hb38
              refine ⟨_, rfl, ?_⟩
              refine plan_pure (i := 14) (d := 6) (S2 := 32767) (v := .pointer (some a36)) rfl (by decide +kernel) rfl (q_assign rfl) ?_
              refine plan_done (by decide +kernel) ?_
              exact Go.ret ⟨.inl rfl, _, _, DOk.nil, (resOk1 Try.results24 rfl), ⟨_, rfl, h⟩⟩
          · refine pstep_yes (S2 := 4085) rfl (by decide +kernel) (by decide) rfl ?_
            refine do_mkT (zs := [.bool false]) slice38 bytes4 (by decide) zero4 rfl rfl (by decide) rfl rfl hm18 fun b40 r39 hHb40 hTb40 hrb40 => ?_
            refine ⟨_, rfl, ?_⟩
            refine plan_one (j := 1) (S2 := 4087) (by decide +kernel) rfl (by decide) rfl ?_
            refine do_bs (ps := [(0, .int .i64 p2)]) (zs := [.int .i64 0]) (cs := [.int .i64 p2]) slice26 zero3 rfl rfl (by decide) (by decide) rfl rfl fun r41 H42 hb43 => ?_
            have h := h r41 H42 hb43
            refine ⟨_, rfl, ?_⟩
            refine plan_one (j := 3) (S2 := 4095) (by decide +kernel) rfl (by decide) rfl ?_
            refine do_call2 body37 (slices_Repeat_Slint_int_s _ _ _ _ h) rfl ?_
            rintro _ H44 ⟨y45, rfl, h⟩
            refine ⟨_, rfl, ?_⟩
            refine plan_commit hTb40 fun hh47 => ?_
            have h := h r39 _ ⟨b40, hh47, hrb40, rfl⟩
            refine plan_pure (i := 12) (d := 33) (S2 := 8191) (v := .agg ([Sl.v y45, .int .i64 p1, Sl.v r39] : List Value).toArray) rfl (by decide +kernel) rfl (q_build (ps := [(0, Sl.v y45), (1, .int .i64 p1), (2, Sl.v r39)]) (cs := [Sl.v y45, .int .i64 p1, Sl.v r39]) places66 zero66 rfl rfl rfl) ?_
            refine plan_one (j := 13) (S2 := 16383) (by decide +kernel) rfl (by decide) rfl ?_
            refine do_newBox (cs := [Sl.v y45, .int .i64 p1, Sl.v r39]) rfl rfl fun a48 H49 hb50 => ?_
            have h := h a48 H49 hb50
            refine ⟨_, rfl, ?_⟩
            refine plan_pure (i := 14) (d := 6) (S2 := 32767) (v := .pointer (some a48)) rfl (by decide +kernel) rfl (q_assign rfl) ?_
            refine plan_done (by decide +kernel) ?_
            exact Go.ret ⟨.inl rfl, _, _, DOk.nil, (resOk1 Try.results24 rfl), ⟨_, rfl, h⟩⟩
      · intro j13 hj13 h
        rcases bor s7 with hc11 | hc11
        · have h := h.1 hc11
          refine no_dst (want_no rfl rfl rfl hc11) rfl (by decide) ?_
          refine no_dst (want_no rfl rfl rfl hc11) rfl (by decide) ?_
          refine GoOps.q (v := .bool true) rfl rfl (by decide) (q_pickT (btT rfl hc11) rfl) ?_
          exact hj13 true _ _ h (by exact ⟨e10_0, e10_1, e10_2, rfl⟩)
        · have h := h.2 hc11
          refine GoOps.q (v := .int .i64 p1) (want_yes rfl rfl rfl hc11) rfl (by decide) (q_move e10_1) ?_
          refine GoOps.q (v := .bool (decide (65536 < p1))) (want_yes rfl rfl rfl hc11) rfl (by decide) (q_gtr rfl rfl) ?_
          refine GoOps.q (v := .bool (decide (65536 < p1))) rfl rfl (by decide) (q_pickF (btF rfl hc11) rfl) ?_
          exact hj13 (decide (65536 < p1)) _ _ h (by exact ⟨e10_0, e10_1, e10_2, rfl⟩)
    · intro j8 hj8 h
      rcases bor s2 with hc6 | hc6
      · have h := h.1 hc6
        refine no_dst (want_no rfl rfl rfl hc6) rfl (by decide) ?_
        refine no_dst (want_no rfl rfl rfl hc6) rfl (by decide) ?_
        refine GoOps.q (v := .bool true) rfl rfl (by decide) (q_pickT (btT rfl hc6) rfl) ?_
        exact hj8 true _ _ h (by exact ⟨e5_0, e5_1, e5_2, rfl⟩)
      · have h := h.2 hc6
        refine GoOps.q (v := .int .i64 p1) (want_yes rfl rfl rfl hc6) rfl (by decide) (q_move e5_1) ?_
        refine GoOps.q (v := .bool (decide (p1 < 1))) (want_yes rfl rfl rfl hc6) rfl (by decide) (q_lss rfl rfl) ?_
        refine GoOps.q (v := .bool (decide (p1 < 1))) rfl rfl (by decide) (q_pickF (btF rfl hc6) rfl) ?_
        exact hj8 (decide (p1 < 1)) _ _ h (by exact ⟨e5_0, e5_1, e5_2, rfl⟩)
  · intro j3 hj3 h
    rcases bor (decide (p0 < 1)) with hc1 | hc1
    · have h := h.1 hc1
      refine no_dst (want_no rfl rfl rfl hc1) rfl (by decide) ?_
      refine no_dst (want_no rfl rfl rfl hc1) rfl (by decide) ?_
      refine GoOps.q (v := .bool true) rfl rfl (by decide) (q_pickT (btT rfl hc1) rfl) ?_
      exact hj3 true _ _ h (by exact ⟨rfl, rfl, rfl, rfl⟩)
    · have h := h.2 hc1
      refine GoOps.q (v := .int .i64 p0) (want_yes rfl rfl rfl hc1) rfl (by decide) (q_move rfl) ?_
      refine GoOps.q (v := .bool (decide (65536 < p0))) (want_yes rfl rfl rfl hc1) rfl (by decide) (q_gtr rfl rfl) ?_
      refine GoOps.q (v := .bool (decide (65536 < p0))) rfl rfl (by decide) (q_pickF (btF rfl hc1) rfl) ?_
      exact hj3 (decide (65536 < p0)) _ _ h (by exact ⟨rfl, rfl, rfl, rfl⟩)

/-- keelson.image.New -/
def image_New (p0 : Int) (H : PH) (Q : Option Addr → PH → Prop) : Prop :=
  mJoin (fun (s2 : Bool) (H4 : PH) =>
  mIf s2
  (Q none H4)
  (paged_New_int p0 15 0 H4 fun y8 H7 =>
  paged_New_int p0 15 (-1) H7 fun y10 H9 =>
  mNew H9 (row [.pointer y8, .pointer y10] 51) fun a11 H12 =>
  Q (some a11) H12))
  fun j3 =>
  mIf (decide (p0 < 1))
  (j3 true H)
  (j3 (decide (64 < p0)) H)

set_option maxRecDepth 20000 in
set_option maxHeartbeats 1000000 in
theorem image_New_s (p0 : Int) (H : PH) (Q : Option Addr → PH → Prop) (h : image_New p0 H Q) :
    CallsH Try.prog 7 #[.int .i64 p0] H (fun v H' => ∃ (r0 : Option Addr), v = .pointer r0 ∧ Q r0 H') := by
  unfold image_New at h
  refine callsH_of_go Try.func7 rfl Try.ntmps7 (Nat.le_of_ble_eq_true rfl) ?_
  refine Go.seq ?_
  refine Go.region rfl ?_
  refine GoOps.q (v := .pointer none) rfl rfl (by decide) (q_assign rfl) ?_
  refine GoOps.nil ?_
  refine Go.seq ?_
  refine Go.seq ?_
  refine Go.region rfl ?_
  refine GoOps.q (v := .int .i64 p0) rfl rfl (by decide) (q_move rfl) ?_
  refine GoOps.q (v := .bool (decide (p0 < 1))) rfl rfl (by decide) (q_lss rfl rfl) ?_
  refine GoOps.q (v := .bool (decide (p0 < 1))) rfl rfl (by decide) (q_move rfl) ?_
  refine join_ops 3 (fun ρ (s2 : Bool) => ρ 0 = .int .i64 p0 ∧ ρ 8 = .bool s2) h ?_ ?_ <;> clear h
  · intro s2 H4 ρ h hE
    obtain ⟨e5_0, e5_8⟩ := hE
    refine GoOps.nil ?_
    rcases bor s2 with hc6 | hc6
    · have h := h.1 hc6
      refine Go.condT (btT e5_8 hc6) ?_
      refine Go.seq ?_
      refine Go.region rfl ?_
      refine GoOps.q (v := .pointer none) rfl rfl (by decide) (q_assign rfl) ?_
      refine GoOps.nil ?_
      exact Go.ret ⟨.inl rfl, _, _, DOk.nil, (resOk1 Try.results7 rfl), ⟨_, rfl, h⟩⟩
    · have h := h.2 hc6
      refine Go.condF (btF e5_8 hc6) ?_
      refine Go.skip ?_
      refine Go.seq ?_
      refine Go.region rfl ?_
      refine GoOps.q (v := .int .i64 p0) rfl rfl (by decide) (q_move e5_0) ?_
      refine call_dst rfl (by decide) body24 (paged_New_int_s _ _ _ _ _ h) rfl ?_
      rintro _ H7 ⟨y8, rfl, h⟩
      refine GoOps.q (v := .int .i64 p0) rfl rfl (by decide) (q_move e5_0) ?_
      refine call_dst rfl (by decide) body24 (paged_New_int_s _ _ _ _ _ h) rfl ?_
      rintro _ H9 ⟨y10, rfl, h⟩
      refine GoOps.q (v := .agg ([.pointer y8, .pointer y10] : List Value).toArray) rfl rfl (by decide) (q_build (ps := [(0, .pointer y8), (1, .pointer y10)]) (cs := [.pointer y8, .pointer y10]) places51 zero51 rfl rfl rfl) ?_
      refine op_dst rfl rfl (by decide) (do_newBox (cs := [.pointer y8, .pointer y10]) rfl rfl fun a11 H12 hb13 => ?_) 
      have h := h a11 H12 hb13
      refine GoOps.q (v := .pointer (some a11)) rfl rfl (by decide) (q_assign rfl) ?_
      refine GoOps.nil ?_
      exact Go.ret ⟨.inl rfl, _, _, DOk.nil, (resOk1 Try.results7 rfl), ⟨_, rfl, h⟩⟩
  · intro j3 hj3 h
    rcases bor (decide (p0 < 1)) with hc1 | hc1
    · have h := h.1 hc1
      refine no_dst (want_no rfl rfl rfl hc1) rfl (by decide) ?_
      refine no_dst (want_no rfl rfl rfl hc1) rfl (by decide) ?_
      refine GoOps.q (v := .bool true) rfl rfl (by decide) (q_pickT (btT rfl hc1) rfl) ?_
      exact hj3 true _ _ h (by exact ⟨rfl, rfl⟩)
    · have h := h.2 hc1
      refine GoOps.q (v := .int .i64 p0) (want_yes rfl rfl rfl hc1) rfl (by decide) (q_move rfl) ?_
      refine GoOps.q (v := .bool (decide (64 < p0))) (want_yes rfl rfl rfl hc1) rfl (by decide) (q_gtr rfl rfl) ?_
      refine GoOps.q (v := .bool (decide (64 < p0))) rfl rfl (by decide) (q_pickF (btF rfl hc1) rfl) ?_
      exact hj3 (decide (64 < p0)) _ _ h (by exact ⟨rfl, rfl⟩)

/-- (*keelson.image.Image).table -/
def image_Image_table (p0 : Option Addr) (p1 : Bool) (H : PH) (Q : Option Addr → PH → Prop) : Prop :=
  mIf (Option.isNone p0)
  (Q none H)
  (mIf p1
  (mNil p0 fun a3 =>
  mLd .pointer H (a3.add 1) fun x5 =>
  Q x5 H)
  (mNil p0 fun a7 =>
  mLd .pointer H (a7.add 0) fun x9 =>
  Q x9 H))

set_option maxRecDepth 20000 in
set_option maxHeartbeats 1000000 in
theorem image_Image_table_s (p0 : Option Addr) (p1 : Bool) (H : PH) (Q : Option Addr → PH → Prop) (h : image_Image_table p0 p1 H Q) :
    CallsH Try.prog 28 #[.pointer p0, .bool p1] H (fun v H' => ∃ (r0 : Option Addr), v = .pointer r0 ∧ Q r0 H') := by
  unfold image_Image_table at h
  refine callsH_of_go Try.func28 rfl Try.ntmps28 (Nat.le_of_ble_eq_true rfl) ?_
  refine Go.seq ?_
  refine Go.region rfl ?_
  refine GoOps.q (v := .pointer none) rfl rfl (by decide) (q_assign rfl) ?_
  refine GoOps.nil ?_
  refine Go.seq ?_
  refine Go.block ?_
  refine Go.seq ?_
  refine Go.region rfl ?_
  refine GoOps.q (v := .pointer p0) rfl rfl (by decide) (q_move rfl) ?_
  refine GoOps.q (v := .bool (Option.isNone p0)) rfl rfl (by decide) (q_eqlPn Try.underlying24 rfl rfl) ?_
  refine GoOps.q (v := .bool (Option.isNone p0)) rfl rfl (by decide) (q_assign rfl) ?_
  refine GoOps.nil ?_
  rcases bor (Option.isNone p0) with hc1 | hc1
  · have h := h.1 hc1
    refine Go.condT (btT rfl hc1) ?_
    refine Go.seq ?_
    refine Go.region rfl ?_
    refine GoOps.q (v := .pointer none) rfl rfl (by decide) (q_assign rfl) ?_
    refine GoOps.nil ?_
    exact Go.ret ⟨.inl rfl, _, _, DOk.nil, (resOk1 Try.results28 rfl), ⟨_, rfl, h⟩⟩
  · have h := h.2 hc1
    refine Go.condF (btF rfl hc1) ?_
    refine Go.seq ?_
    refine Go.region rfl ?_
    refine GoOps.q (v := .bool p1) rfl rfl (by decide) (q_move rfl) ?_
    refine GoOps.q (v := .bool p1) rfl rfl (by decide) (q_assign rfl) ?_
    refine GoOps.nil ?_
    rcases bor p1 with hc2 | hc2
    · have h := h.1 hc2
      refine Go.condT (btT rfl hc2) ?_
      refine Go.seq ?_
      refine Go.region rfl ?_
      refine GoOps.q (v := .pointer p0) rfl rfl (by decide) (q_move rfl) ?_
      obtain ⟨a3, ha4, h⟩ := h
      refine GoOps.q (v := .pointer (some a3)) rfl rfl (by decide) (q_nilCheck (ptn rfl ha4)) ?_
      refine GoOps.q (v := .pointer (some (a3.add 1))) rfl rfl (by decide) (q_fieldAddr foff51_1 rfl) ?_
      obtain ⟨x5, hx6, h⟩ := h
      refine GoOps.q (v := .pointer x5) rfl rfl (by decide) (q_load scalar48 rfl hx6) ?_
      refine GoOps.q (v := .pointer x5) rfl rfl (by decide) (q_assign rfl) ?_
      refine GoOps.nil ?_
      exact Go.ret ⟨.inl rfl, _, _, DOk.nil, (resOk1 Try.results28 rfl), ⟨_, rfl, h⟩⟩
    · have h := h.2 hc2
      refine Go.condF (btF rfl hc2) ?_
      refine Go.skip ?_
      refine Go.inBlock ?_
      refine Go.seq ?_
      refine Go.region rfl ?_
      refine GoOps.q (v := .pointer p0) rfl rfl (by decide) (q_move rfl) ?_
      obtain ⟨a7, ha8, h⟩ := h
      refine GoOps.q (v := .pointer (some a7)) rfl rfl (by decide) (q_nilCheck (ptn rfl ha8)) ?_
      refine GoOps.q (v := .pointer (some (a7.add 0))) rfl rfl (by decide) (q_fieldAddr foff51_0 rfl) ?_
      obtain ⟨x9, hx10, h⟩ := h
      refine GoOps.q (v := .pointer x9) rfl rfl (by decide) (q_load scalar48 rfl hx10) ?_
      refine GoOps.q (v := .pointer x9) rfl rfl (by decide) (q_assign rfl) ?_
      refine GoOps.nil ?_
      exact Go.ret ⟨.inl rfl, _, _, DOk.nil, (resOk1 Try.results28 rfl), ⟨_, rfl, h⟩⟩

/-- (*keelson.paged.Paged[int]).Len -/
def paged_Paged_int_Len (p0 : Option Addr) (H : PH) (Q : Int → PH → Prop) : Prop :=
  mIf (Option.isNone p0)
  (Q 0 H)
  (mNil p0 fun a2 =>
  mLd Sl.v H (a2.add 0) fun x4 =>
  Q (x4.len : Int) H)

set_option maxRecDepth 20000 in
set_option maxHeartbeats 1000000 in
theorem paged_Paged_int_Len_s (p0 : Option Addr) (H : PH) (Q : Int → PH → Prop) (h : paged_Paged_int_Len p0 H Q) :
    CallsH Try.prog 35 #[.pointer p0] H (fun v H' => ∃ (r0 : Int), v = .int .i64 r0 ∧ Q r0 H') := by
  unfold paged_Paged_int_Len at h
  refine callsH_of_go Try.func35 rfl Try.ntmps35 (Nat.le_of_ble_eq_true rfl) ?_
  refine Go.seq ?_
  refine Go.region rfl ?_
  refine GoOps.q (v := .int .i64 0) rfl rfl (by decide) (q_assign rfl) ?_
  refine GoOps.nil ?_
  refine Go.seq ?_
  refine Go.seq ?_
  refine Go.region rfl ?_
  refine GoOps.q (v := .pointer p0) rfl rfl (by decide) (q_move rfl) ?_
  refine GoOps.q (v := .bool (Option.isNone p0)) rfl rfl (by decide) (q_eqlPn Try.underlying48 rfl rfl) ?_
  refine GoOps.nil ?_
  rcases bor (Option.isNone p0) with hc1 | hc1
  · have h := h.1 hc1
    refine Go.condT (btT rfl hc1) ?_
    refine Go.seq ?_
    refine Go.region rfl ?_
    refine GoOps.q (v := .int .i64 0) rfl rfl (by decide) (q_assign rfl) ?_
    refine GoOps.nil ?_
    exact Go.ret ⟨.inl rfl, _, _, DOk.nil, (resOk1 Try.results35 rfl), ⟨_, rfl, h⟩⟩
  · have h := h.2 hc1
    refine Go.condF (btF rfl hc1) ?_
    refine Go.skip ?_
    refine Go.seq ?_
    refine Go.region rfl ?_
    refine GoOps.q (v := .pointer p0) rfl rfl (by decide) (q_move rfl) ?_
    obtain ⟨a2, ha3, h⟩ := h
    refine GoOps.q (v := .pointer (some a2)) rfl rfl (by decide) (q_nilCheck (ptn rfl ha3)) ?_
    refine GoOps.q (v := .pointer (some (a2.add 0))) rfl rfl (by decide) (q_fieldAddr foff66_0 rfl) ?_
    obtain ⟨x4, hx5, h⟩ := h
    refine GoOps.q (v := Sl.v x4) rfl rfl (by decide) (q_load scalar26 rfl hx5) ?_
    refine GoOps.q (v := .int .i64 (x4.len : Int)) rfl rfl (by decide) (q_len Try.underlying26 rfl (ls1 rfl)) ?_
    refine GoOps.q (v := .int .i64 (x4.len : Int)) rfl rfl (by decide) (q_assign rfl) ?_
    refine GoOps.nil ?_
    exact Go.ret ⟨.inl rfl, _, _, DOk.nil, (resOk1 Try.results35 rfl), ⟨_, rfl, h⟩⟩

/-- (*keelson.image.Image).Blocks -/
def image_Image_Blocks (p0 : Option Addr) (H : PH) (Q : Int → PH → Prop) : Prop :=
  image_Image_table p0 false H fun y2 H1 =>
  paged_Paged_int_Len y2 H1 fun y4 H3 =>
  Q y4 H3

set_option maxRecDepth 20000 in
set_option maxHeartbeats 1000000 in
theorem image_Image_Blocks_s (p0 : Option Addr) (H : PH) (Q : Int → PH → Prop) (h : image_Image_Blocks p0 H Q) :
    CallsH Try.prog 21 #[.pointer p0] H (fun v H' => ∃ (r0 : Int), v = .int .i64 r0 ∧ Q r0 H') := by
  unfold image_Image_Blocks at h
  refine callsH_of_go Try.func21 rfl Try.ntmps21 (Nat.le_of_ble_eq_true rfl) ?_
  refine Go.seq ?_
  refine Go.region rfl ?_
  refine GoOps.q (v := .int .i64 0) rfl rfl (by decide) (q_assign rfl) ?_
  refine GoOps.nil ?_
  refine Go.seq ?_
  refine Go.region rfl ?_
  refine GoOps.q (v := .pointer p0) rfl rfl (by decide) (q_move rfl) ?_
  refine call_dst rfl (by decide) body28 (image_Image_table_s _ _ _ _ h) rfl ?_
  rintro _ H1 ⟨y2, rfl, h⟩
  refine call_dst rfl (by decide) body35 (paged_Paged_int_Len_s _ _ _ h) rfl ?_
  rintro _ H3 ⟨y4, rfl, h⟩
  refine GoOps.q (v := .int .i64 y4) rfl rfl (by decide) (q_assign rfl) ?_
  refine GoOps.nil ?_
  exact Go.ret ⟨.inl rfl, _, _, DOk.nil, (resOk1 Try.results21 rfl), ⟨_, rfl, h⟩⟩

/-- (*keelson.image.Image).has -/
def image_Image_has (p0 : Option Addr) (p1 : Int) (p2 : Int) (H : PH) (Q : Bool → PH → Prop) : Prop :=
  mJoin (fun (s2 : Bool) (H4 : PH) =>
  mJoin (fun (s7 : Bool) (H9 : PH) =>
  mJoin (fun (s12 : Bool) (H14 : PH) =>
  Q s12 H14)
  fun j13 =>
  mIf s7
  (image_Image_Blocks p0 H9 fun y17 H16 =>
  j13 (decide (p1 ≤ (IntKind.wrap .i64 (y17 - p2)))) H16)
  (j13 false H9))
  fun j8 =>
  mIf s2
  (j8 (decide (0 ≤ p1)) H4)
  (j8 false H4))
  fun j3 =>
  mIf (decide (1 ≤ p2))
  (image_Image_Blocks p0 H fun y19 H18 =>
  j3 (decide (p2 ≤ y19)) H18)
  (j3 false H)

set_option maxRecDepth 20000 in
set_option maxHeartbeats 1000000 in
theorem image_Image_has_s (p0 : Option Addr) (p1 : Int) (p2 : Int) (H : PH) (Q : Bool → PH → Prop) (h : image_Image_has p0 p1 p2 H Q) :
    CallsH Try.prog 34 #[.pointer p0, .int .i64 p1, .int .i64 p2] H (fun v H' => ∃ (r0 : Bool), v = .bool r0 ∧ Q r0 H') := by
  unfold image_Image_has at h
  refine callsH_of_go Try.func34 rfl Try.ntmps34 (Nat.le_of_ble_eq_true rfl) ?_
  refine Go.seq ?_
  refine Go.region rfl ?_
  refine GoOps.q (v := .bool false) rfl rfl (by decide) (q_assign rfl) ?_
  refine GoOps.nil ?_
  refine Go.seq ?_
  refine Go.region rfl ?_
  refine GoOps.q (v := .int .i64 p2) rfl rfl (by decide) (q_move rfl) ?_
  refine GoOps.q (v := .bool (decide (1 ≤ p2))) rfl rfl (by decide) (q_geq rfl rfl) ?_
  refine GoOps.q (v := .bool (decide (1 ≤ p2))) rfl rfl (by decide) (q_move rfl) ?_
  refine join_ops 5 (fun ρ (s2 : Bool) => ρ 0 = .pointer p0 ∧ ρ 1 = .int .i64 p1 ∧ ρ 2 = .int .i64 p2 ∧ ρ 14 = .bool s2) h ?_ ?_ <;> clear h
  · intro s2 H4 ρ h hE
    obtain ⟨e5_0, e5_1, e5_2, e5_14⟩ := hE
    refine GoOps.q (v := .bool s2) rfl rfl (by decide) (q_move e5_14) ?_
    refine join_ops 3 (fun ρ (s7 : Bool) => ρ 0 = .pointer p0 ∧ ρ 1 = .int .i64 p1 ∧ ρ 2 = .int .i64 p2 ∧ ρ 18 = .bool s7) h ?_ ?_ <;> clear h
    · intro s7 H9 ρ h hE
      obtain ⟨e10_0, e10_1, e10_2, e10_18⟩ := hE
      refine GoOps.q (v := .bool s7) rfl rfl (by decide) (q_move e10_18) ?_
      refine join_ops 7 (fun ρ (s12 : Bool) => ρ 26 = .bool s12) h ?_ ?_ <;> clear h
      · intro s12 H14 ρ h hE
        have e15_26 := hE
        refine GoOps.q (v := .bool s12) rfl rfl (by decide) (q_assign e15_26) ?_
        refine GoOps.nil ?_
        exact Go.ret ⟨.inl rfl, _, _, DOk.nil, (resOk1 Try.results34 rfl), ⟨_, rfl, h⟩⟩
      · intro j13 hj13 h
        rcases bor s7 with hc11 | hc11
        · have h := h.1 hc11
          refine GoOps.q (v := .int .i64 p1) (want_yes rfl rfl rfl hc11) rfl (by decide) (q_move e10_1) ?_
          refine GoOps.q (v := .pointer p0) (want_yes rfl rfl rfl hc11) rfl (by decide) (q_move e10_0) ?_
          refine call_dst (want_yes rfl rfl rfl hc11) (by decide) body21 (image_Image_Blocks_s _ _ _ h) rfl ?_
          rintro _ H16 ⟨y17, rfl, h⟩
          refine GoOps.q (v := .int .i64 p2) (want_yes rfl rfl rfl hc11) rfl (by decide) (q_move e10_2) ?_
          refine GoOps.q (v := .int .i64 (IntKind.wrap .i64 (y17 - p2))) (want_yes rfl rfl rfl hc11) rfl (by decide) (q_sub rfl rfl) ?_
          refine GoOps.q (v := .bool (decide (p1 ≤ (IntKind.wrap .i64 (y17 - p2))))) (want_yes rfl rfl rfl hc11) rfl (by decide) (q_leq rfl rfl) ?_
          refine GoOps.q (v := .bool (decide (p1 ≤ (IntKind.wrap .i64 (y17 - p2))))) rfl rfl (by decide) (q_pickT (btT rfl hc11) rfl) ?_
          exact hj13 (decide (p1 ≤ (IntKind.wrap .i64 (y17 - p2)))) _ _ h (by exact rfl)
        · have h := h.2 hc11
          refine no_dst (want_no rfl rfl rfl hc11) rfl (by decide) ?_
          refine no_dst (want_no rfl rfl rfl hc11) rfl (by decide) ?_
          refine no_dst (want_no rfl rfl rfl hc11) rfl (by decide) ?_
          refine no_dst (want_no rfl rfl rfl hc11) rfl (by decide) ?_
          refine no_dst (want_no rfl rfl rfl hc11) rfl (by decide) ?_
          refine no_dst (want_no rfl rfl rfl hc11) rfl (by decide) ?_
          refine GoOps.q (v := .bool false) rfl rfl (by decide) (q_pickF (btF rfl hc11) rfl) ?_
          exact hj13 false _ _ h (by exact rfl)
    · intro j8 hj8 h
      rcases bor s2 with hc6 | hc6
      · have h := h.1 hc6
        refine GoOps.q (v := .int .i64 p1) (want_yes rfl rfl rfl hc6) rfl (by decide) (q_move e5_1) ?_
        refine GoOps.q (v := .bool (decide (0 ≤ p1))) (want_yes rfl rfl rfl hc6) rfl (by decide) (q_geq rfl rfl) ?_
        refine GoOps.q (v := .bool (decide (0 ≤ p1))) rfl rfl (by decide) (q_pickT (btT rfl hc6) rfl) ?_
        exact hj8 (decide (0 ≤ p1)) _ _ h (by exact ⟨e5_0, e5_1, e5_2, rfl⟩)
      · have h := h.2 hc6
        refine no_dst (want_no rfl rfl rfl hc6) rfl (by decide) ?_
        refine no_dst (want_no rfl rfl rfl hc6) rfl (by decide) ?_
        refine GoOps.q (v := .bool false) rfl rfl (by decide) (q_pickF (btF rfl hc6) rfl) ?_
        exact hj8 false _ _ h (by exact ⟨e5_0, e5_1, e5_2, rfl⟩)
  · intro j3 hj3 h
    rcases bor (decide (1 ≤ p2)) with hc1 | hc1
    · have h := h.1 hc1
      refine GoOps.q (v := .int .i64 p2) (want_yes rfl rfl rfl hc1) rfl (by decide) (q_move rfl) ?_
      refine GoOps.q (v := .pointer p0) (want_yes rfl rfl rfl hc1) rfl (by decide) (q_move rfl) ?_
      refine call_dst (want_yes rfl rfl rfl hc1) (by decide) body21 (image_Image_Blocks_s _ _ _ h) rfl ?_
      rintro _ H18 ⟨y19, rfl, h⟩
      refine GoOps.q (v := .bool (decide (p2 ≤ y19))) (want_yes rfl rfl rfl hc1) rfl (by decide) (q_leq rfl rfl) ?_
      refine GoOps.q (v := .bool (decide (p2 ≤ y19))) rfl rfl (by decide) (q_pickT (btT rfl hc1) rfl) ?_
      exact hj3 (decide (p2 ≤ y19)) _ _ h (by exact ⟨rfl, rfl, rfl, rfl⟩)
    · have h := h.2 hc1
      refine no_dst (want_no rfl rfl rfl hc1) rfl (by decide) ?_
      refine no_dst (want_no rfl rfl rfl hc1) rfl (by decide) ?_
      refine no_dst (want_no rfl rfl rfl hc1) rfl (by decide) ?_
      refine no_dst (want_no rfl rfl rfl hc1) rfl (by decide) ?_
      refine GoOps.q (v := .bool false) rfl rfl (by decide) (q_pickF (btF rfl hc1) rfl) ?_
      exact hj3 false _ _ h (by exact ⟨rfl, rfl, rfl, rfl⟩)

/-- (*keelson.paged.Paged[int]).Get -/
def paged_Paged_int_Get (p0 : Option Addr) (p1 : Int) (H : PH) (Q : Int → Bool → PH → Prop) : Prop :=
  mJoin (fun (s2 : Bool) (H4 : PH) =>
  mIf s2
  (Q 0 false H4)
  (mNil p0 fun a7 =>
  mLd Sl.v H4 (a7.add 0) fun x9 =>
  mIdx x9 1 p1 fun a11 =>
  mLd (.int .i64) H4 a11 fun x13 =>
  Q x13 true H4))
  fun j3 =>
  mIf (decide (p1 < 0))
  (j3 true H)
  (paged_Paged_int_Len p0 H fun y16 H15 =>
  j3 (decide (y16 ≤ p1)) H15)

set_option maxRecDepth 20000 in
set_option maxHeartbeats 1000000 in
theorem paged_Paged_int_Get_s (p0 : Option Addr) (p1 : Int) (H : PH) (Q : Int → Bool → PH → Prop) (h : paged_Paged_int_Get p0 p1 H Q) :
    CallsH Try.prog 32 #[.pointer p0, .int .i64 p1] H (fun v H' => ∃ (r0 : Int) (r1 : Bool), v = .tuple #[.int .i64 r0, .bool r1] ∧ Q r0 r1 H') := by
  unfold paged_Paged_int_Get at h
  refine callsH_of_go Try.func32 rfl Try.ntmps32 (Nat.le_of_ble_eq_true rfl) ?_
  refine Go.seq ?_
  refine Go.region rfl ?_
  refine GoOps.q (v := .int .i64 0) rfl rfl (by decide) (q_assign rfl) ?_
  refine GoOps.q (v := .bool false) rfl rfl (by decide) (q_assign rfl) ?_
  refine GoOps.nil ?_
  refine Go.seq ?_
  refine Go.seq ?_
  refine Go.region rfl ?_
  refine GoOps.q (v := .int .i64 p1) rfl rfl (by decide) (q_move rfl) ?_
  refine GoOps.q (v := .bool (decide (p1 < 0))) rfl rfl (by decide) (q_lss rfl rfl) ?_
  refine GoOps.q (v := .bool (decide (p1 < 0))) rfl rfl (by decide) (q_move rfl) ?_
  refine join_ops 5 (fun ρ (s2 : Bool) => ρ 0 = .pointer p0 ∧ ρ 1 = .int .i64 p1 ∧ ρ 4 = .int .i64 0 ∧ ρ 13 = .bool s2) h ?_ ?_ <;> clear h
  · intro s2 H4 ρ h hE
    obtain ⟨e5_0, e5_1, e5_4, e5_13⟩ := hE
    refine GoOps.nil ?_
    rcases bor s2 with hc6 | hc6
    · have h := h.1 hc6
      refine Go.condT (btT e5_13 hc6) ?_
      refine Go.seq ?_
      refine Go.region rfl ?_
      refine GoOps.q (v := .int .i64 0) rfl rfl (by decide) (q_move e5_4) ?_
      refine GoOps.q (v := .int .i64 0) rfl rfl (by decide) (q_assign rfl) ?_
      refine GoOps.q (v := .bool false) rfl rfl (by decide) (q_assign rfl) ?_
      refine GoOps.nil ?_
      exact Go.ret ⟨.inl rfl, _, _, DOk.nil, (resOk2 Try.results32 rfl rfl), ⟨_, _, rfl, h⟩⟩
    · have h := h.2 hc6
      refine Go.condF (btF e5_13 hc6) ?_
      refine Go.skip ?_
      refine Go.seq ?_
      refine Go.region rfl ?_
      refine GoOps.q (v := .pointer p0) rfl rfl (by decide) (q_move e5_0) ?_
      obtain ⟨a7, ha8, h⟩ := h
      refine GoOps.q (v := .pointer (some a7)) rfl rfl (by decide) (q_nilCheck (ptn rfl ha8)) ?_
      refine GoOps.q (v := .pointer (some (a7.add 0))) rfl rfl (by decide) (q_fieldAddr foff66_0 rfl) ?_
      obtain ⟨x9, hx10, h⟩ := h
      refine GoOps.q (v := Sl.v x9) rfl rfl (by decide) (q_load scalar26 rfl hx10) ?_
      refine GoOps.q (v := .int .i64 p1) rfl rfl (by decide) (q_move e5_1) ?_
      obtain ⟨a11, ha12, h⟩ := h
      refine GoOps.q (v := .pointer (some a11)) rfl rfl (by decide) (q_idx slice26 ha12 rfl rfl) ?_
      obtain ⟨x13, hx14, h⟩ := h
      refine GoOps.q (v := .int .i64 x13) rfl rfl (by decide) (q_load scalar3 rfl hx14) ?_
      refine GoOps.q (v := .int .i64 x13) rfl rfl (by decide) (q_assign rfl) ?_
      refine GoOps.q (v := .bool true) rfl rfl (by decide) (q_assign rfl) ?_
      refine GoOps.nil ?_
      exact Go.ret ⟨.inl rfl, _, _, DOk.nil, (resOk2 Try.results32 rfl rfl), ⟨_, _, rfl, h⟩⟩
  · intro j3 hj3 h
    rcases bor (decide (p1 < 0)) with hc1 | hc1
    · have h := h.1 hc1
      refine no_dst (want_no rfl rfl rfl hc1) rfl (by decide) ?_
      refine no_dst (want_no rfl rfl rfl hc1) rfl (by decide) ?_
      refine no_dst (want_no rfl rfl rfl hc1) rfl (by decide) ?_
      refine no_dst (want_no rfl rfl rfl hc1) rfl (by decide) ?_
      refine GoOps.q (v := .bool true) rfl rfl (by decide) (q_pickT (btT rfl hc1) rfl) ?_
      exact hj3 true _ _ h (by exact ⟨rfl, rfl, rfl, rfl⟩)
    · have h := h.2 hc1
      refine GoOps.q (v := .int .i64 p1) (want_yes rfl rfl rfl hc1) rfl (by decide) (q_move rfl) ?_
      refine GoOps.q (v := .pointer p0) (want_yes rfl rfl rfl hc1) rfl (by decide) (q_move rfl) ?_
      refine call_dst (want_yes rfl rfl rfl hc1) (by decide) body35 (paged_Paged_int_Len_s _ _ _ h) rfl ?_
      rintro _ H15 ⟨y16, rfl, h⟩
      refine GoOps.q (v := .bool (decide (y16 ≤ p1))) (want_yes rfl rfl rfl hc1) rfl (by decide) (q_geq rfl rfl) ?_
      refine GoOps.q (v := .bool (decide (y16 ≤ p1))) rfl rfl (by decide) (q_pickF (btF rfl hc1) rfl) ?_
      exact hj3 (decide (y16 ≤ p1)) _ _ h (by exact ⟨rfl, rfl, rfl, rfl⟩)

/-- (*keelson.paged.Paged[int]).Set -/
def paged_Paged_int_Set (p0 : Option Addr) (p1 : Int) (p2 : Int) (H : PH) (Q : Bool → PH → Prop) : Prop :=
  paged_Paged_int_Get p0 p1 H fun y2 y3 H1 =>
  mJoin (fun (s5 : Bool) (H7 : PH) =>
  mJoin (fun (s9 : Unit) (H11 : PH) =>
  Q y3 H11)
  fun j10 =>
  mIf s5
  (mNil p0 fun a14 =>
  mLd Sl.v H7 (a14.add 0) fun x16 =>
  mNil p0 fun a18 =>
  mLd Sl.v H7 (a18.add 2) fun x20 =>
  mNil p0 fun a22 =>
  mLd (.int .i64) H7 (a22.add 1) fun x24 =>
  mNe x24 <|
  mIdx x16 1 p1 fun a27 =>
  mSt H7 a27 ([.int .i64 p2]) fun H29 =>
  mIdx x20 1 (IntKind.wrap .i64 (Int.tdiv p1 x24)) fun a31 =>
  mSt H29 a31 ([.bool true]) fun H33 =>
  j10 () H33)
  (j10 () H7))
  fun j6 =>
  mIf y3
  (j6 (y2 != p2) H1)
  (j6 false H1)

set_option maxRecDepth 20000 in
set_option maxHeartbeats 1000000 in
theorem paged_Paged_int_Set_s (p0 : Option Addr) (p1 : Int) (p2 : Int) (H : PH) (Q : Bool → PH → Prop) (h : paged_Paged_int_Set p0 p1 p2 H Q) :
    CallsH Try.prog 31 #[.pointer p0, .int .i64 p1, .int .i64 p2] H (fun v H' => ∃ (r0 : Bool), v = .bool r0 ∧ Q r0 H') := by
  unfold paged_Paged_int_Set at h
  refine callsH_of_go Try.func31 rfl Try.ntmps31 (Nat.le_of_ble_eq_true rfl) ?_
  refine Go.seq ?_
  refine Go.region rfl ?_
  refine GoOps.q (v := .bool false) rfl rfl (by decide) (q_assign rfl) ?_
  refine GoOps.nil ?_
  refine Go.seq ?_
  refine Go.region rfl ?_
  refine GoOps.q (v := .pointer p0) rfl rfl (by decide) (q_move rfl) ?_
  refine GoOps.q (v := .int .i64 p1) rfl rfl (by decide) (q_move rfl) ?_
  refine call_dst rfl (by decide) body32 (paged_Paged_int_Get_s _ _ _ _ h) rfl ?_
  rintro _ H1 ⟨y2, y3, rfl, h⟩
  refine GoOps.q (v := .tuple #[.int .i64 y2, .bool y3]) rfl rfl (by decide) (q_move rfl) ?_
  refine GoOps.q (v := .int .i64 y2) rfl rfl (by decide) (q_extract rfl rfl) ?_
  refine GoOps.q (v := .bool y3) rfl rfl (by decide) (q_extract rfl rfl) ?_
  refine GoOps.q (v := .int .i64 y2) rfl rfl (by decide) (q_assign rfl) ?_
  refine GoOps.q (v := .bool y3) rfl rfl (by decide) (q_assign rfl) ?_
  refine GoOps.nil ?_
  refine Go.seq ?_
  refine Go.seq ?_
  refine Go.region rfl ?_
  refine GoOps.q (v := .bool y3) rfl rfl (by decide) (q_move rfl) ?_
  refine GoOps.q (v := .bool y3) rfl rfl (by decide) (q_move rfl) ?_
  refine join_ops 4 (fun ρ (s5 : Bool) => ρ 0 = .pointer p0 ∧ ρ 1 = .int .i64 p1 ∧ ρ 2 = .int .i64 p2 ∧ ρ 8 = .bool y3 ∧ ρ 20 = .bool s5) h ?_ ?_ <;> clear h
  · intro s5 H7 ρ h hE
    obtain ⟨e8_0, e8_1, e8_2, e8_8, e8_20⟩ := hE
    refine GoOps.nil ?_
    refine join_go 1 (fun ρ (s9 : Unit) => ρ 8 = .bool y3) h ?_ ?_ <;> clear h
    · intro s9 H11 ρ h hE
      have e12_8 := hE
      refine Go.seq ?_
      refine Go.region rfl ?_
      refine GoOps.q (v := .bool y3) rfl rfl (by decide) (q_move e12_8) ?_
      refine GoOps.q (v := .bool y3) rfl rfl (by decide) (q_assign rfl) ?_
      refine GoOps.nil ?_
      exact Go.ret ⟨.inl rfl, _, _, DOk.nil, (resOk1 Try.results31 rfl), ⟨_, rfl, h⟩⟩
    · intro j10 hj10 h
      rcases bor s5 with hc13 | hc13
      · have h := h.1 hc13
        refine Go.condT (btT e8_20 hc13) ?_
        refine Go.draw mixed ?_
        refine plan_pure (i := 0) (d := 21) (S2 := 1) (v := .pointer p0) rfl (by decide +kernel) rfl (q_move e8_0) ?_
        obtain ⟨a14, ha15, h⟩ := h
        refine plan_pure (i := 1) (d := 22) (S2 := 3) (v := .pointer (some a14)) rfl (by decide +kernel) rfl (q_nilCheck (ptn rfl ha15)) ?_
        refine plan_pure (i := 2) (d := 23) (S2 := 7) (v := .pointer (some (a14.add 0))) rfl (by decide +kernel) rfl (q_fieldAddr foff66_0 rfl) ?_
        obtain ⟨x16, hx17, h⟩ := h
        refine plan_load (i := 3) (d := 24) (S2 := 15) (v := Sl.v x16) rfl (by decide +kernel) rfl (q_load scalar26 rfl hx17) ?_
        refine plan_pure (i := 4) (d := 25) (S2 := 31) (v := .int .i64 p1) rfl (by decide +kernel) rfl (q_move e8_1) ?_
        refine plan_pure (i := 5) (d := 26) (S2 := 63) (v := .pointer p0) rfl (by decide +kernel) rfl (q_move e8_0) ?_
        obtain ⟨a18, ha19, h⟩ := h
        refine plan_pure (i := 6) (d := 27) (S2 := 127) (v := .pointer (some a18)) rfl (by decide +kernel) rfl (q_nilCheck (ptn rfl ha19)) ?_
        refine plan_pure (i := 7) (d := 28) (S2 := 255) (v := .pointer (some (a18.add 2))) rfl (by decide +kernel) rfl (q_fieldAddr foff66_2 rfl) ?_
        obtain ⟨x20, hx21, h⟩ := h
        refine plan_load (i := 8) (d := 29) (S2 := 511) (v := Sl.v x20) rfl (by decide +kernel) rfl (q_load scalar38 rfl hx21) ?_
        refine plan_pure (i := 9) (d := 30) (S2 := 1023) (v := .int .i64 p1) rfl (by decide +kernel) rfl (q_move e8_1) ?_
        refine plan_pure (i := 10) (d := 31) (S2 := 2047) (v := .pointer p0) rfl (by decide +kernel) rfl (q_move e8_0) ?_
        obtain ⟨a22, ha23, h⟩ := h
        refine plan_pure (i := 11) (d := 32) (S2 := 4095) (v := .pointer (some a22)) rfl (by decide +kernel) rfl (q_nilCheck (ptn rfl ha23)) ?_
        refine plan_pure (i := 12) (d := 33) (S2 := 8191) (v := .pointer (some (a22.add 1))) rfl (by decide +kernel) rfl (q_fieldAddr foff66_1 rfl) ?_
        obtain ⟨x24, hx25, h⟩ := h
        refine plan_load (i := 13) (d := 34) (S2 := 16383) (v := .int .i64 x24) rfl (by decide +kernel) rfl (q_load scalar3 rfl hx25) ?_
        obtain ⟨hn26, h⟩ := h
        refine plan_pure (i := 14) (d := 35) (S2 := 32767) (v := .int .i64 (IntKind.wrap .i64 (Int.tdiv p1 x24))) rfl (by decide +kernel) rfl (q_quo hn26 rfl rfl) ?_
        refine plan_pure (i := 15) (d := 36) (S2 := 65535) (v := .int .i64 p2) rfl (by decide +kernel) rfl (q_move e8_2) ?_
        obtain ⟨a27, ha28, h⟩ := h
        refine plan_pure (i := 16) (d := 37) (S2 := 131071) (v := .pointer (some a27)) rfl (by decide +kernel) rfl (q_idx slice26 ha28 rfl rfl) ?_
        refine plan_one (j := 17) (S2 := 262143) (by decide +kernel) rfl (by decide) rfl ?_
        obtain ⟨q30b, q30o, q30c, q30e, hq30a, hq30b, hq30l, hq30v, h⟩ := h
        refine do_store (vs := [.int .i64 p2]) size3 (pta rfl hq30a) rfl rfl rfl hq30v hq30b hq30l ?_
        refine ⟨_, (.inl ⟨⟨[17], by decide +kernel, rfl⟩, .inl ⟨⟨[17], by decide +kernel, rfl⟩, .inl ⟨⟨[17], by decide +kernel, rfl⟩, rfl⟩⟩⟩), ?_⟩
        obtain ⟨a31, ha32, h⟩ := h
        refine plan_pure (i := 18) (d := 38) (S2 := 524287) (v := .pointer (some a31)) rfl (by decide +kernel) rfl (q_idx slice38 ha32 rfl rfl) ?_
        refine plan_one (j := 19) (S2 := 1048575) (by decide +kernel) rfl (by decide) rfl ?_
        obtain ⟨q34b, q34o, q34c, q34e, hq34a, hq34b, hq34l, hq34v, h⟩ := h
        refine do_store (vs := [.bool true]) size4 (pta rfl hq34a) rfl rfl rfl hq34v hq34b hq34l ?_
        refine ⟨_, rfl, ?_⟩
        refine plan_done (by decide +kernel) ?_
        exact hj10 _ _ _ h e8_8
      · have h := h.2 hc13
        refine Go.condF (btF e8_20 hc13) ?_
        refine Go.skip ?_
        exact hj10 _ _ _ h e8_8
  · intro j6 hj6 h
    rcases bor y3 with hc4 | hc4
    · have h := h.1 hc4
      refine GoOps.q (v := .int .i64 y2) (want_yes rfl rfl rfl hc4) rfl (by decide) (q_move rfl) ?_
      refine GoOps.q (v := .int .i64 p2) (want_yes rfl rfl rfl hc4) rfl (by decide) (q_move rfl) ?_
      refine GoOps.q (v := .bool (y2 != p2)) (want_yes rfl rfl rfl hc4) rfl (by decide) (q_neq rfl rfl) ?_
      refine GoOps.q (v := .bool (y2 != p2)) rfl rfl (by decide) (q_pickT (btT rfl hc4) rfl) ?_
      exact hj6 (y2 != p2) _ _ h (by exact ⟨rfl, rfl, rfl, rfl, rfl⟩)
    · have h := h.2 hc4
      refine no_dst (want_no rfl rfl rfl hc4) rfl (by decide) ?_
      refine no_dst (want_no rfl rfl rfl hc4) rfl (by decide) ?_
      refine no_dst (want_no rfl rfl rfl hc4) rfl (by decide) ?_
      refine GoOps.q (v := .bool false) rfl rfl (by decide) (q_pickF (btF rfl hc4) rfl) ?_
      exact hj6 false _ _ h (by exact ⟨rfl, rfl, rfl, rfl, rfl⟩)

/-- keelson.image.set -/
def image_set (p0 : Option Addr) (p1 : Int) (p2 : Int) (H : PH) (Q : Int → PH → Prop) : Prop :=
  paged_Paged_int_Get p0 p1 H fun y2 y3 H1 =>
  paged_Paged_int_Set p0 p1 p2 H1 fun y5 H4 =>
  mIf (y2 == p2)
  (Q 0 H4)
  (Q (if y2 < 0 then 0 else y2) H4)

set_option maxRecDepth 20000 in
set_option maxHeartbeats 1000000 in
theorem image_set_s (p0 : Option Addr) (p1 : Int) (p2 : Int) (H : PH) (Q : Int → PH → Prop) (h : image_set p0 p1 p2 H Q) :
    CallsH Try.prog 30 #[.pointer p0, .int .i64 p1, .int .i64 p2] H (fun v H' => ∃ (r0 : Int), v = .int .i64 r0 ∧ Q r0 H') := by
  unfold image_set at h
  refine callsH_of_go Try.func30 rfl Try.ntmps30 (Nat.le_of_ble_eq_true rfl) ?_
  refine Go.seq ?_
  refine Go.region rfl ?_
  refine GoOps.q (v := .int .i64 0) rfl rfl (by decide) (q_assign rfl) ?_
  refine GoOps.nil ?_
  refine Go.seq ?_
  refine Go.region rfl ?_
  refine GoOps.q (v := .pointer p0) rfl rfl (by decide) (q_move rfl) ?_
  refine GoOps.q (v := .int .i64 p1) rfl rfl (by decide) (q_move rfl) ?_
  refine call_dst rfl (by decide) body32 (paged_Paged_int_Get_s _ _ _ _ h) rfl ?_
  rintro _ H1 ⟨y2, y3, rfl, h⟩
  refine GoOps.q (v := .tuple #[.int .i64 y2, .bool y3]) rfl rfl (by decide) (q_move rfl) ?_
  refine GoOps.q (v := .int .i64 y2) rfl rfl (by decide) (q_extract rfl rfl) ?_
  refine GoOps.q (v := .bool y3) rfl rfl (by decide) (q_extract rfl rfl) ?_
  refine GoOps.q (v := .int .i64 y2) rfl rfl (by decide) (q_assign rfl) ?_
  refine GoOps.q (v := .bool y3) rfl rfl (by decide) (q_assign rfl) ?_
  refine GoOps.nil ?_
  refine Go.seq ?_
  refine Go.region rfl ?_
  refine GoOps.q (v := .pointer p0) rfl rfl (by decide) (q_move rfl) ?_
  refine GoOps.q (v := .int .i64 p1) rfl rfl (by decide) (q_move rfl) ?_
  refine GoOps.q (v := .int .i64 p2) rfl rfl (by decide) (q_move rfl) ?_
  refine call_dst rfl (by decide) body31 (paged_Paged_int_Set_s _ _ _ _ _ h) rfl ?_
  rintro _ H4 ⟨y5, rfl, h⟩
  refine GoOps.nil ?_
  refine Go.seq ?_
  refine Go.seq ?_
  refine Go.region rfl ?_
  refine GoOps.q (v := .int .i64 y2) rfl rfl (by decide) (q_move rfl) ?_
  refine GoOps.q (v := .int .i64 p2) rfl rfl (by decide) (q_move rfl) ?_
  refine GoOps.q (v := .bool (y2 == p2)) rfl rfl (by decide) (q_eql rfl rfl) ?_
  refine GoOps.nil ?_
  rcases bor (y2 == p2) with hc6 | hc6
  · have h := h.1 hc6
    refine Go.condT (btT rfl hc6) ?_
    refine Go.seq ?_
    refine Go.region rfl ?_
    refine GoOps.q (v := .int .i64 0) rfl rfl (by decide) (q_assign rfl) ?_
    refine GoOps.nil ?_
    exact Go.ret ⟨.inl rfl, _, _, DOk.nil, (resOk1 Try.results30 rfl), ⟨_, rfl, h⟩⟩
  · have h := h.2 hc6
    refine Go.condF (btF rfl hc6) ?_
    refine Go.skip ?_
    refine Go.seq ?_
    refine Go.region rfl ?_
    refine GoOps.q (v := .int .i64 y2) rfl rfl (by decide) (q_move rfl) ?_
    refine GoOps.q (v := .int .i64 (if y2 < 0 then 0 else y2)) rfl rfl (by decide) (q_max2 rfl) ?_
    refine GoOps.q (v := .int .i64 (if y2 < 0 then 0 else y2)) rfl rfl (by decide) (q_assign rfl) ?_
    refine GoOps.nil ?_
    exact Go.ret ⟨.inl rfl, _, _, DOk.nil, (resOk1 Try.results30 rfl), ⟨_, rfl, h⟩⟩

/-- (*keelson.image.Image).one -/
def image_Image_one (p0 : Option Addr) (p1 : Bool) (p2 : Int) (p3 : Int) (H : PH) (Q : Int → Bool → PH → Prop) : Prop :=
  image_Image_has p0 p2 1 H fun y2 H1 =>
  mJoin (fun (s4 : Bool) (H6 : PH) =>
  mJoin (fun (s9 : Bool) (H11 : PH) =>
  mIf s9
  (Q 0 false H11)
  (image_Image_table p0 p1 H11 fun y15 H14 =>
  image_set y15 p2 p3 H14 fun y17 H16 =>
  Q y17 true H16))
  fun j10 =>
  mIf s4
  (j10 true H6)
  (j10 (decide (4096 ≤ p3)) H6))
  fun j5 =>
  mIf (!y2)
  (j5 true H1)
  (j5 (decide (p3 < 1)) H1)

set_option maxRecDepth 20000 in
set_option maxHeartbeats 1000000 in
theorem image_Image_one_s (p0 : Option Addr) (p1 : Bool) (p2 : Int) (p3 : Int) (H : PH) (Q : Int → Bool → PH → Prop) (h : image_Image_one p0 p1 p2 p3 H Q) :
    CallsH Try.prog 26 #[.pointer p0, .bool p1, .int .i64 p2, .int .i64 p3] H (fun v H' => ∃ (r0 : Int) (r1 : Bool), v = .tuple #[.int .i64 r0, .bool r1] ∧ Q r0 r1 H') := by
  unfold image_Image_one at h
  refine callsH_of_go Try.func26 rfl Try.ntmps26 (Nat.le_of_ble_eq_true rfl) ?_
  refine Go.seq ?_
  refine Go.region rfl ?_
  refine GoOps.q (v := .int .i64 0) rfl rfl (by decide) (q_assign rfl) ?_
  refine GoOps.q (v := .bool false) rfl rfl (by decide) (q_assign rfl) ?_
  refine GoOps.nil ?_
  refine Go.seq ?_
  refine Go.seq ?_
  refine Go.region rfl ?_
  refine GoOps.q (v := .pointer p0) rfl rfl (by decide) (q_move rfl) ?_
  refine GoOps.q (v := .int .i64 p2) rfl rfl (by decide) (q_move rfl) ?_
  refine call_dst rfl (by decide) body34 (image_Image_has_s _ _ _ _ _ h) rfl ?_
  rintro _ H1 ⟨y2, rfl, h⟩
  refine GoOps.q (v := .bool (!y2)) rfl rfl (by decide) (q_not rfl) ?_
  refine GoOps.q (v := .bool (!y2)) rfl rfl (by decide) (q_move rfl) ?_
  refine join_ops 3 (fun ρ (s4 : Bool) => ρ 0 = .pointer p0 ∧ ρ 1 = .bool p1 ∧ ρ 2 = .int .i64 p2 ∧ ρ 3 = .int .i64 p3 ∧ ρ 17 = .bool s4) h ?_ ?_ <;> clear h
  · intro s4 H6 ρ h hE
    obtain ⟨e7_0, e7_1, e7_2, e7_3, e7_17⟩ := hE
    refine GoOps.q (v := .bool s4) rfl rfl (by decide) (q_move e7_17) ?_
    refine join_ops 3 (fun ρ (s9 : Bool) => ρ 0 = .pointer p0 ∧ ρ 1 = .bool p1 ∧ ρ 2 = .int .i64 p2 ∧ ρ 3 = .int .i64 p3 ∧ ρ 21 = .bool s9) h ?_ ?_ <;> clear h
    · intro s9 H11 ρ h hE
      obtain ⟨e12_0, e12_1, e12_2, e12_3, e12_21⟩ := hE
      refine GoOps.nil ?_
      rcases bor s9 with hc13 | hc13
      · have h := h.1 hc13
        refine Go.condT (btT e12_21 hc13) ?_
        refine Go.seq ?_
        refine Go.region rfl ?_
        refine GoOps.q (v := .int .i64 0) rfl rfl (by decide) (q_assign rfl) ?_
        refine GoOps.q (v := .bool false) rfl rfl (by decide) (q_assign rfl) ?_
        refine GoOps.nil ?_
        exact Go.ret ⟨.inl rfl, _, _, DOk.nil, (resOk2 Try.results26 rfl rfl), ⟨_, _, rfl, h⟩⟩
      · have h := h.2 hc13
        refine Go.condF (btF e12_21 hc13) ?_
        refine Go.skip ?_
        refine Go.seq ?_
        refine Go.region rfl ?_
        refine GoOps.q (v := .pointer p0) rfl rfl (by decide) (q_move e12_0) ?_
        refine GoOps.q (v := .bool p1) rfl rfl (by decide) (q_move e12_1) ?_
        refine call_dst rfl (by decide) body28 (image_Image_table_s _ _ _ _ h) rfl ?_
        rintro _ H14 ⟨y15, rfl, h⟩
        refine GoOps.q (v := .int .i64 p2) rfl rfl (by decide) (q_move e12_2) ?_
        refine GoOps.q (v := .int .i64 p3) rfl rfl (by decide) (q_move e12_3) ?_
        refine call_dst rfl (by decide) body30 (image_set_s _ _ _ _ _ h) rfl ?_
        rintro _ H16 ⟨y17, rfl, h⟩
        refine GoOps.q (v := .int .i64 y17) rfl rfl (by decide) (q_assign rfl) ?_
        refine GoOps.q (v := .bool true) rfl rfl (by decide) (q_assign rfl) ?_
        refine GoOps.nil ?_
        exact Go.ret ⟨.inl rfl, _, _, DOk.nil, (resOk2 Try.results26 rfl rfl), ⟨_, _, rfl, h⟩⟩
    · intro j10 hj10 h
      rcases bor s4 with hc8 | hc8
      · have h := h.1 hc8
        refine no_dst (want_no rfl rfl rfl hc8) rfl (by decide) ?_
        refine no_dst (want_no rfl rfl rfl hc8) rfl (by decide) ?_
        refine GoOps.q (v := .bool true) rfl rfl (by decide) (q_pickT (btT rfl hc8) rfl) ?_
        exact hj10 true _ _ h (by exact ⟨e7_0, e7_1, e7_2, e7_3, rfl⟩)
      · have h := h.2 hc8
        refine GoOps.q (v := .int .i64 p3) (want_yes rfl rfl rfl hc8) rfl (by decide) (q_move e7_3) ?_
        refine GoOps.q (v := .bool (decide (4096 ≤ p3))) (want_yes rfl rfl rfl hc8) rfl (by decide) (q_geq rfl rfl) ?_
        refine GoOps.q (v := .bool (decide (4096 ≤ p3))) rfl rfl (by decide) (q_pickF (btF rfl hc8) rfl) ?_
        exact hj10 (decide (4096 ≤ p3)) _ _ h (by exact ⟨e7_0, e7_1, e7_2, e7_3, rfl⟩)
  · intro j5 hj5 h
    rcases bor (!y2) with hc3 | hc3
    · have h := h.1 hc3
      refine no_dst (want_no rfl rfl rfl hc3) rfl (by decide) ?_
      refine no_dst (want_no rfl rfl rfl hc3) rfl (by decide) ?_
      refine GoOps.q (v := .bool true) rfl rfl (by decide) (q_pickT (btT rfl hc3) rfl) ?_
      exact hj5 true _ _ h (by exact ⟨rfl, rfl, rfl, rfl, rfl⟩)
    · have h := h.2 hc3
      refine GoOps.q (v := .int .i64 p3) (want_yes rfl rfl rfl hc3) rfl (by decide) (q_move rfl) ?_
      refine GoOps.q (v := .bool (decide (p3 < 1))) (want_yes rfl rfl rfl hc3) rfl (by decide) (q_lss rfl rfl) ?_
      refine GoOps.q (v := .bool (decide (p3 < 1))) rfl rfl (by decide) (q_pickF (btF rfl hc3) rfl) ?_
      exact hj5 (decide (p3 < 1)) _ _ h (by exact ⟨rfl, rfl, rfl, rfl, rfl⟩)

/-- (*keelson.image.Image).Write -/
def image_Image_Write (p0 : Option Addr) (p1 : Int) (p2 : Int) (H : PH) (Q : Int → Bool → PH → Prop) : Prop :=
  image_Image_one p0 true p1 p2 H fun y2 y3 H1 =>
  Q y2 y3 H1

set_option maxRecDepth 20000 in
set_option maxHeartbeats 1000000 in
theorem image_Image_Write_s (p0 : Option Addr) (p1 : Int) (p2 : Int) (H : PH) (Q : Int → Bool → PH → Prop) (h : image_Image_Write p0 p1 p2 H Q) :
    CallsH Try.prog 9 #[.pointer p0, .int .i64 p1, .int .i64 p2] H (fun v H' => ∃ (r0 : Int) (r1 : Bool), v = .tuple #[.int .i64 r0, .bool r1] ∧ Q r0 r1 H') := by
  unfold image_Image_Write at h
  refine callsH_of_go Try.func9 rfl Try.ntmps9 (Nat.le_of_ble_eq_true rfl) ?_
  refine Go.seq ?_
  refine Go.region rfl ?_
  refine GoOps.q (v := .int .i64 0) rfl rfl (by decide) (q_assign rfl) ?_
  refine GoOps.q (v := .bool false) rfl rfl (by decide) (q_assign rfl) ?_
  refine GoOps.nil ?_
  refine Go.seq ?_
  refine Go.region rfl ?_
  refine GoOps.q (v := .pointer p0) rfl rfl (by decide) (q_move rfl) ?_
  refine GoOps.q (v := .int .i64 p1) rfl rfl (by decide) (q_move rfl) ?_
  refine GoOps.q (v := .int .i64 p2) rfl rfl (by decide) (q_move rfl) ?_
  refine call_dst rfl (by decide) body26 (image_Image_one_s _ _ _ _ _ _ h) rfl ?_
  rintro _ H1 ⟨y2, y3, rfl, h⟩
  refine GoOps.q (v := .int .i64 y2) rfl rfl (by decide) (q_extract rfl rfl) ?_
  refine GoOps.q (v := .bool y3) rfl rfl (by decide) (q_extract rfl rfl) ?_
  refine GoOps.q (v := .int .i64 y2) rfl rfl (by decide) (q_assign rfl) ?_
  refine GoOps.q (v := .bool y3) rfl rfl (by decide) (q_assign rfl) ?_
  refine GoOps.nil ?_
  exact Go.ret ⟨.inl rfl, _, _, DOk.nil, (resOk2 Try.results9 rfl rfl), ⟨_, _, rfl, h⟩⟩

/-- (*keelson.image.Image).Ref -/
def image_Image_Ref (p0 : Option Addr) (p1 : Int) (H : PH) (Q : Int → Bool → PH → Prop) : Prop :=
  image_Image_table p0 false H fun y2 H1 =>
  paged_Paged_int_Get y2 p1 H1 fun y4 y5 H3 =>
  Q y4 y5 H3

set_option maxRecDepth 20000 in
set_option maxHeartbeats 1000000 in
theorem image_Image_Ref_s (p0 : Option Addr) (p1 : Int) (H : PH) (Q : Int → Bool → PH → Prop) (h : image_Image_Ref p0 p1 H Q) :
    CallsH Try.prog 15 #[.pointer p0, .int .i64 p1] H (fun v H' => ∃ (r0 : Int) (r1 : Bool), v = .tuple #[.int .i64 r0, .bool r1] ∧ Q r0 r1 H') := by
  unfold image_Image_Ref at h
  refine callsH_of_go Try.func15 rfl Try.ntmps15 (Nat.le_of_ble_eq_true rfl) ?_
  refine Go.seq ?_
  refine Go.region rfl ?_
  refine GoOps.q (v := .int .i64 0) rfl rfl (by decide) (q_assign rfl) ?_
  refine GoOps.q (v := .bool false) rfl rfl (by decide) (q_assign rfl) ?_
  refine GoOps.nil ?_
  refine Go.seq ?_
  refine Go.region rfl ?_
  refine GoOps.q (v := .pointer p0) rfl rfl (by decide) (q_move rfl) ?_
  refine call_dst rfl (by decide) body28 (image_Image_table_s _ _ _ _ h) rfl ?_
  rintro _ H1 ⟨y2, rfl, h⟩
  refine GoOps.q (v := .int .i64 p1) rfl rfl (by decide) (q_move rfl) ?_
  refine call_dst rfl (by decide) body32 (paged_Paged_int_Get_s _ _ _ _ h) rfl ?_
  rintro _ H3 ⟨y4, y5, rfl, h⟩
  refine GoOps.q (v := .int .i64 y4) rfl rfl (by decide) (q_extract rfl rfl) ?_
  refine GoOps.q (v := .bool y5) rfl rfl (by decide) (q_extract rfl rfl) ?_
  refine GoOps.q (v := .int .i64 y4) rfl rfl (by decide) (q_assign rfl) ?_
  refine GoOps.q (v := .bool y5) rfl rfl (by decide) (q_assign rfl) ?_
  refine GoOps.nil ?_
  exact Go.ret ⟨.inl rfl, _, _, DOk.nil, (resOk2 Try.results15 rfl rfl), ⟨_, _, rfl, h⟩⟩

/-- (*keelson.image.Image).Look -/
def image_Image_Look (p0 : Option Addr) (p1 : Int) (H : PH) (Q : Int → Bool → PH → Prop) : Prop :=
  image_Image_table p0 true H fun y2 H1 =>
  paged_Paged_int_Get y2 p1 H1 fun y4 y5 H3 =>
  mJoin (fun (s7 : Bool) (H9 : PH) =>
  mIf s7
  (Q y4 true H9)
  (image_Image_Ref p0 p1 H9 fun y13 y14 H12 =>
  Q y13 y14 H12))
  fun j8 =>
  mIf y5
  (j8 (y4 != (-1)) H3)
  (j8 false H3)

set_option maxRecDepth 20000 in
set_option maxHeartbeats 1000000 in
theorem image_Image_Look_s (p0 : Option Addr) (p1 : Int) (H : PH) (Q : Int → Bool → PH → Prop) (h : image_Image_Look p0 p1 H Q) :
    CallsH Try.prog 16 #[.pointer p0, .int .i64 p1] H (fun v H' => ∃ (r0 : Int) (r1 : Bool), v = .tuple #[.int .i64 r0, .bool r1] ∧ Q r0 r1 H') := by
  unfold image_Image_Look at h
  refine callsH_of_go Try.func16 rfl Try.ntmps16 (Nat.le_of_ble_eq_true rfl) ?_
  refine Go.seq ?_
  refine Go.region rfl ?_
  refine GoOps.q (v := .int .i64 0) rfl rfl (by decide) (q_assign rfl) ?_
  refine GoOps.q (v := .bool false) rfl rfl (by decide) (q_assign rfl) ?_
  refine GoOps.nil ?_
  refine Go.seq ?_
  refine Go.seq ?_
  refine Go.region rfl ?_
  refine GoOps.q (v := .pointer p0) rfl rfl (by decide) (q_move rfl) ?_
  refine call_dst rfl (by decide) body28 (image_Image_table_s _ _ _ _ h) rfl ?_
  rintro _ H1 ⟨y2, rfl, h⟩
  refine GoOps.q (v := .int .i64 p1) rfl rfl (by decide) (q_move rfl) ?_
  refine call_dst rfl (by decide) body32 (paged_Paged_int_Get_s _ _ _ _ h) rfl ?_
  rintro _ H3 ⟨y4, y5, rfl, h⟩
  refine GoOps.q (v := .tuple #[.int .i64 y4, .bool y5]) rfl rfl (by decide) (q_move rfl) ?_
  refine GoOps.q (v := .int .i64 y4) rfl rfl (by decide) (q_extract rfl rfl) ?_
  refine GoOps.q (v := .bool y5) rfl rfl (by decide) (q_extract rfl rfl) ?_
  refine GoOps.q (v := .int .i64 y4) rfl rfl (by decide) (q_assign rfl) ?_
  refine GoOps.q (v := .bool y5) rfl rfl (by decide) (q_assign rfl) ?_
  refine GoOps.nil ?_
  refine Go.seq ?_
  refine Go.region rfl ?_
  refine GoOps.q (v := .bool y5) rfl rfl (by decide) (q_move rfl) ?_
  refine GoOps.q (v := .bool y5) rfl rfl (by decide) (q_move rfl) ?_
  refine join_ops 3 (fun ρ (s7 : Bool) => ρ 0 = .pointer p0 ∧ ρ 1 = .int .i64 p1 ∧ ρ 6 = .int .i64 y4 ∧ ρ 19 = .bool s7) h ?_ ?_ <;> clear h
  · intro s7 H9 ρ h hE
    obtain ⟨e10_0, e10_1, e10_6, e10_19⟩ := hE
    refine GoOps.nil ?_
    rcases bor s7 with hc11 | hc11
    · have h := h.1 hc11
      refine Go.condT (btT e10_19 hc11) ?_
      refine Go.seq ?_
      refine Go.region rfl ?_
      refine GoOps.q (v := .int .i64 y4) rfl rfl (by decide) (q_move e10_6) ?_
      refine GoOps.q (v := .int .i64 y4) rfl rfl (by decide) (q_assign rfl) ?_
      refine GoOps.q (v := .bool true) rfl rfl (by decide) (q_assign rfl) ?_
      refine GoOps.nil ?_
      exact Go.ret ⟨.inl rfl, _, _, DOk.nil, (resOk2 Try.results16 rfl rfl), ⟨_, _, rfl, h⟩⟩
    · have h := h.2 hc11
      refine Go.condF (btF e10_19 hc11) ?_
      refine Go.skip ?_
      refine Go.seq ?_
      refine Go.region rfl ?_
      refine GoOps.q (v := .pointer p0) rfl rfl (by decide) (q_move e10_0) ?_
      refine GoOps.q (v := .int .i64 p1) rfl rfl (by decide) (q_move e10_1) ?_
      refine call_dst rfl (by decide) body15 (image_Image_Ref_s _ _ _ _ h) rfl ?_
      rintro _ H12 ⟨y13, y14, rfl, h⟩
      refine GoOps.q (v := .int .i64 y13) rfl rfl (by decide) (q_extract rfl rfl) ?_
      refine GoOps.q (v := .bool y14) rfl rfl (by decide) (q_extract rfl rfl) ?_
      refine GoOps.q (v := .int .i64 y13) rfl rfl (by decide) (q_assign rfl) ?_
      refine GoOps.q (v := .bool y14) rfl rfl (by decide) (q_assign rfl) ?_
      refine GoOps.nil ?_
      exact Go.ret ⟨.inl rfl, _, _, DOk.nil, (resOk2 Try.results16 rfl rfl), ⟨_, _, rfl, h⟩⟩
  · intro j8 hj8 h
    rcases bor y5 with hc6 | hc6
    · have h := h.1 hc6
      refine GoOps.q (v := .int .i64 y4) (want_yes rfl rfl rfl hc6) rfl (by decide) (q_move rfl) ?_
      refine GoOps.q (v := .bool (y4 != (-1))) (want_yes rfl rfl rfl hc6) rfl (by decide) (q_neq rfl rfl) ?_
      refine GoOps.q (v := .bool (y4 != (-1))) rfl rfl (by decide) (q_pickT (btT rfl hc6) rfl) ?_
      exact hj8 (y4 != (-1)) _ _ h (by exact ⟨rfl, rfl, rfl, rfl⟩)
    · have h := h.2 hc6
      refine no_dst (want_no rfl rfl rfl hc6) rfl (by decide) ?_
      refine no_dst (want_no rfl rfl rfl hc6) rfl (by decide) ?_
      refine GoOps.q (v := .bool false) rfl rfl (by decide) (q_pickF (btF rfl hc6) rfl) ?_
      exact hj8 false _ _ h (by exact ⟨rfl, rfl, rfl, rfl⟩)

/-- (*keelson.paged.Paged[int]).All$1 -/
def paged_Paged_int_All_c1 {γ : Type} (c0 : Addr) (Y : List Value → γ → PH → (Nat → γ → PH → Prop) → Prop) (g : γ) (H : PH) (Q : Nat → γ → PH → Prop) : Prop :=
  mLd .pointer H c0 fun x1 =>
  paged_Paged_int_Len x1 H fun y4 H3 =>
  mLoop (fun (s5 : Int × (Nat × γ)) (H8 : PH) (again6 : (Int × (Nat × γ)) → PH → Prop) =>
  mIf (decide (s5.1 < y4))
  (mLd .pointer H8 c0 fun x10 =>
  mNil x10 fun a12 =>
  mLd Sl.v H8 (a12.add 0) fun x14 =>
  mIdx x14 1 s5.1 fun a16 =>
  mLd (.int .i64) H8 a16 fun x18 =>
  mYield Y s5.2 [.int .i64 s5.1, .int .i64 x18] H8 fun q20 H21 =>
  mIf (!(q20.1 == 0))
  (Q q20.1 q20.2 H21)
  (again6 (IntKind.wrap .i64 (s5.1 + 1), q20) H21))
  (Q s5.2.1 s5.2.2 H8))
  (0, (0, g)) H3

set_option maxRecDepth 20000 in
set_option maxHeartbeats 1000000 in
theorem paged_Paged_int_All_c1_s {γ : Type} (c0 : Addr) (Y : List Value → γ → PH → (Nat → γ → PH → Prop) → Prop) (g : γ) (H : PH) (Q : Nat → γ → PH → Prop) (h : paged_Paged_int_All_c1 c0 Y g H Q) :
    IterH Try.prog (.func (.func 38) #[] #[.pointer (some c0)]) Y g H Q := by
  unfold paged_Paged_int_All_c1 at h
  refine iterH_of_goM (fi := []) (ca := [.pointer (some c0)]) body38 Try.func38 rfl Try.ntmps38 (Nat.le_of_ble_eq_true rfl) fun l Tk hd hy => ?_
  generalize hyv : Value.func (.yield l) #[] #[] = yv
  intro D M hM hB hA
  refine Go.seq ?_
  refine Go.region rfl ?_
  obtain ⟨x1, hx2, h⟩ := h
  refine GoOps.q (v := .pointer x1) rfl rfl (by decide) (q_load scalar48 rfl hx2) ?_
  refine call_dst rfl (by decide) body35 (paged_Paged_int_Len_s _ _ _ h) rfl ?_
  rintro _ H3 ⟨y4, rfl, h⟩
  refine GoOps.q (v := .int .i64 0) rfl rfl (by decide) (q_move rfl) ?_
  refine GoOps.nil ?_
  refine Go.block ?_
  refine loop_goM (g := (0, g)) (fun s5 => s5.2) (fun ρ (s5 : Int × (Nat × γ)) => ρ 0 = yv ∧ ρ 1 = .pointer (some c0) ∧ ρ 5 = .int .i64 y4 ∧ ρ 6 = .int .i64 s5.1) hM hB hA h ⟨rfl, rfl, rfl, rfl⟩ rfl ?_
  clear h
  intro ρ s5 H8 again6 hE h hagain6
  obtain ⟨e7_0, e7_1, e7_5, e7_6⟩ := hE
  intro D M hM hB hA
  refine Go.seq ?_
  refine Go.region rfl ?_
  refine GoOps.q (v := .bool (decide (s5.1 < y4))) rfl rfl (by decide) (q_lss e7_6 e7_5) ?_
  refine GoOps.nil ?_
  refine Go.seq ?_
  rcases bor (decide (s5.1 < y4)) with hc9 | hc9
  · have h := h.1 hc9
    refine Go.condT (btT rfl hc9) ?_
    refine Go.skip ?_
    refine Go.seq ?_
    refine Go.block ?_
    refine Go.seq ?_
    refine Go.region rfl ?_
    refine GoOps.q (v := .int .i64 s5.1) rfl rfl (by decide) (q_move e7_6) ?_
    refine GoOps.q (v := .int .i64 s5.1) rfl rfl (by decide) (q_assign rfl) ?_
    refine GoOps.nil ?_
    refine Go.seq ?_
    refine Go.region rfl ?_
    refine GoOps.q (v := yv) rfl rfl (by decide) (q_move e7_0) ?_
    refine GoOps.q (v := .int .i64 s5.1) rfl rfl (by decide) (q_move rfl) ?_
    obtain ⟨x10, hx11, h⟩ := h
    refine GoOps.q (v := .pointer x10) rfl rfl (by decide) (q_load scalar48 e7_1 hx11) ?_
    obtain ⟨a12, ha13, h⟩ := h
    refine GoOps.q (v := .pointer (some a12)) rfl rfl (by decide) (q_nilCheck (ptn rfl ha13)) ?_
    refine GoOps.q (v := .pointer (some (a12.add 0))) rfl rfl (by decide) (q_fieldAddr foff66_0 rfl) ?_
    obtain ⟨x14, hx15, h⟩ := h
    refine GoOps.q (v := Sl.v x14) rfl rfl (by decide) (q_load scalar26 rfl hx15) ?_
    refine GoOps.q (v := .int .i64 s5.1) rfl rfl (by decide) (q_move rfl) ?_
    obtain ⟨a16, ha17, h⟩ := h
    refine GoOps.q (v := .pointer (some a16)) rfl rfl (by decide) (q_idx slice26 ha17 rfl rfl) ?_
    obtain ⟨x18, hx19, h⟩ := h
    refine GoOps.q (v := .int .i64 x18) rfl rfl (by decide) (q_load scalar3 rfl hx19) ?_
    refine op_dst rfl rfl (by decide) (do_yieldP (q := s5.2) hy hA (Eq.trans rfl hyv.symm) rfl h fun q20 H21 h => ?_) 
    refine GoOps.q (v := .bool (!(q20.1 == 0))) rfl rfl (by decide) (q_not rfl) ?_
    refine GoOps.nil ?_
    rcases bor (!(q20.1 == 0)) with hc22 | hc22
    · have h := h.1 hc22
      refine Go.condT (btT rfl hc22) ?_
      exact Go.retM (g := q20) hM hB hA ⟨.inl rfl, _, (resOk0 Try.results38), h⟩
    · have h := h.2 hc22
      refine Go.condF (btF rfl hc22) ?_
      refine Go.skip ?_
      refine Go.inBlock ?_
      refine Go.region rfl ?_
      refine GoOps.q (v := .int .i64 (IntKind.wrap .i64 (s5.1 + 1))) rfl rfl (by decide) (q_add e7_6 rfl) ?_
      refine GoOps.q (v := .int .i64 (IntKind.wrap .i64 (s5.1 + 1))) rfl rfl (by decide) (q_move rfl) ?_
      refine GoOps.nil ?_
      exact hagain6 (IntKind.wrap .i64 (s5.1 + 1), q20) _ _ h (by exact ⟨e7_0, e7_1, e7_5, rfl⟩) _ _ hM hB hA
  · have h := h.2 hc9
    refine Go.condF (btF rfl hc9) ?_
    refine Go.exit rfl ?_
    exact Go.fallM (g := s5.2) hM hB hA ⟨.inr rfl, _, (resOk0 Try.results38), h⟩

/-- (*keelson.paged.Paged[int]).All -/
def paged_Paged_int_All (p0 : Option Addr) (H : PH) (Q : Value → PH → Prop) : Prop :=
  mNew H (row [.pointer p0] 48) fun a1 H2 =>
  Q (.func (.func 38) #[] #[.pointer (some a1)]) H2

set_option maxRecDepth 20000 in
set_option maxHeartbeats 1000000 in
theorem paged_Paged_int_All_s (p0 : Option Addr) (H : PH) (Q : Value → PH → Prop) (h : paged_Paged_int_All p0 H Q) :
    CallsH Try.prog 29 #[.pointer p0] H (fun v H' => ∃ (r0 : Value), v = r0 ∧ Q r0 H') := by
  unfold paged_Paged_int_All at h
  refine callsH_of_go Try.func29 rfl Try.ntmps29 (Nat.le_of_ble_eq_true rfl) ?_
  refine Go.seq ?_
  refine Go.region rfl ?_
  refine op_dst rfl rfl (by decide) (do_newBox (cs := [.pointer p0]) rfl rfl fun a1 H2 hb3 => ?_) 
  have h := h a1 H2 hb3
  refine GoOps.q (v := .nilFunc) rfl rfl (by decide) (q_assign rfl) ?_
  refine GoOps.nil ?_
  refine Go.seq ?_
  refine Go.region rfl ?_
  refine GoOps.q (v := (.func (.func 38) #[] #[.pointer (some a1)])) rfl rfl (by decide) (q_makeFunc rfl rfl) ?_
  refine GoOps.q (v := (.func (.func 38) #[] #[.pointer (some a1)])) rfl rfl (by decide) (q_assign rfl) ?_
  refine GoOps.nil ?_
  exact Go.ret ⟨.inl rfl, _, _, DOk.nil, (resOk1 Try.results29 rfl), ⟨_, rfl, h⟩⟩

/-- (*keelson.image.Image).Commit -/
def image_Image_Commit (p0 : Option Addr) (H : PH) (Q : Sl → PH → Prop) : Prop :=
  mNew H (row [.pointer p0] 24) fun a1 H2 =>
  mNew H2 (row [.slice none 0 0] 26) fun a4 H5 =>
  mLd .pointer H5 a1 fun x7 =>
  image_Image_table x7 true H5 fun y10 H9 =>
  paged_Paged_int_All y10 H9 fun y12 H11 =>
  IterH Try.prog y12 (fun (vs13 : List Value) (q14 : Unit) (H15 : PH) (y16 : Nat → Unit → PH → Prop) =>
  ∃ (x17 : Int) (x18 : Int), vs13 = [.int .i64 x17, .int .i64 x18] ∧
  mIf (x18 == (-1))
  (y16 0 () H15)
  (mLd .pointer H15 a1 fun x20 =>
  mNil x20 fun a22 =>
  mLd .pointer H15 (a22.add 0) fun x24 =>
  image_set x24 x17 x18 H15 fun y27 H26 =>
  mJoin (fun (s28 : Unit) (H30 : PH) =>
  mLd .pointer H30 a1 fun x32 =>
  mNil x32 fun a34 =>
  mLd .pointer H30 (a34.add 1) fun x36 =>
  paged_Paged_int_Set x36 x17 (-1) H30 fun y39 H38 =>
  y16 0 () H38)
  fun j29 =>
  mIf (decide (0 < y27))
  (mLd Sl.v H26 a4 fun x41 =>
  mNewS H26 (row [.int .i64 y27] 3) 1 fun r43 H44 =>
  mApp H44 3 1 8 [.int .i64 0] x41 r43 fun r46 H47 =>
  mSt H47 a4 ([Sl.v r46]) fun H48 =>
  j29 () H48)
  (j29 () H26))) () H11 fun _ q51 H52 =>
  mLd Sl.v H52 a4 fun x53 =>
  mSt H52 a4 ([Sl.v x53]) fun H55 =>
  mLd Sl.v H55 a4 fun x57 =>
  Q x57 H55

set_option maxRecDepth 20000 in
set_option maxHeartbeats 1000000 in
theorem image_Image_Commit_s (p0 : Option Addr) (H : PH) (Q : Sl → PH → Prop) (h : image_Image_Commit p0 H Q) :
    CallsH Try.prog 11 #[.pointer p0] H (fun v H' => ∃ (r0 : Sl), v = Sl.v r0 ∧ Q r0 H') := by
  unfold image_Image_Commit at h
  refine callsH_of_goM Try.func11 rfl Try.ntmps11 (Nat.le_of_ble_eq_true rfl) ?_
  intro D M hM hB hA
  refine Go.seq ?_
  refine Go.region rfl ?_
  refine op_dst rfl rfl (by decide) (do_newBox (cs := [.pointer p0]) rfl rfl fun a1 H2 hb3 => ?_) 
  have h := h a1 H2 hb3
  refine op_dst rfl rfl (by decide) (do_new zero26 rfl fun a4 H5 hb6 => ?_) 
  have h := h a4 H5 hb6
  refine GoOps.nil ?_
  refine Go.seq ?_
  refine Go.seq ?_
  refine Go.region rfl ?_
  obtain ⟨x7, hx8, h⟩ := h
  refine GoOps.q (v := .pointer x7) rfl rfl (by decide) (q_load scalar24 rfl hx8) ?_
  refine call_dst rfl (by decide) body28 (image_Image_table_s _ _ _ _ h) rfl ?_
  rintro _ H9 ⟨y10, rfl, h⟩
  refine call_dst rfl (by decide) body29 (paged_Paged_int_All_s _ _ _ h) rfl ?_
  rintro y12 H11 ⟨_, rfl, h⟩
  refine GoOps.nil ?_
  refine Go.block ?_
  refine go_range0 (g := ()) h rfl (fun _ _ _ h => h) rfl hM hB hA trivial ?_ ?_ <;> clear h
  · rintro _ q14 H15 y16 ⟨x17, x18, rfl, h⟩
    refine ⟨rfl, fun lp Bx r hr => ?_⟩
    clear hM hB hA
    intro D M hM hB hA
    refine Go.seq ?_
    refine Go.region rfl ?_
    refine GoOps.q (v := .int .i64 x17) rfl rfl (by decide) (q_assign rfl) ?_
    refine GoOps.nil ?_
    refine Go.region rfl ?_
    refine GoOps.q (v := .int .i64 x18) rfl rfl (by decide) (q_assign rfl) ?_
    refine GoOps.nil ?_
    refine go_begin (g := ()) hr hB hA fun M hB hA => ?_
    have hM : Mk (some lp) D M := trivial
    refine Go.block ?_
    refine Go.seq ?_
    refine Go.seq ?_
    refine Go.region rfl ?_
    refine GoOps.q (v := .int .i64 x18) rfl rfl (by decide) (q_move rfl) ?_
    refine GoOps.q (v := .bool (x18 == (-1))) rfl rfl (by decide) (q_eql rfl rfl) ?_
    refine GoOps.nil ?_
    rcases bor (x18 == (-1)) with hc19 | hc19
    · have h := h.1 hc19
      refine Go.condT (btT rfl hc19) ?_
      refine Go.exit rfl ?_
      exact Go.fallM (g := ()) hM hB hA ⟨0, rfl, h⟩
    · have h := h.2 hc19
      refine Go.condF (btF rfl hc19) ?_
      refine Go.skip ?_
      refine Go.seq ?_
      refine Go.seq ?_
      refine Go.region rfl ?_
      obtain ⟨x20, hx21, h⟩ := h
      refine GoOps.q (v := .pointer x20) rfl rfl (by decide) (q_load scalar24 rfl hx21) ?_
      obtain ⟨a22, ha23, h⟩ := h
      refine GoOps.q (v := .pointer (some a22)) rfl rfl (by decide) (q_nilCheck (ptn rfl ha23)) ?_
      refine GoOps.q (v := .pointer (some (a22.add 0))) rfl rfl (by decide) (q_fieldAddr foff51_0 rfl) ?_
      obtain ⟨x24, hx25, h⟩ := h
      refine GoOps.q (v := .pointer x24) rfl rfl (by decide) (q_load scalar48 rfl hx25) ?_
      refine GoOps.q (v := .int .i64 x17) rfl rfl (by decide) (q_move rfl) ?_
      refine GoOps.q (v := .int .i64 x18) rfl rfl (by decide) (q_move rfl) ?_
      refine call_dst rfl (by decide) body30 (image_set_s _ _ _ _ _ h) rfl ?_
      rintro _ H26 ⟨y27, rfl, h⟩
      refine GoOps.q (v := .int .i64 y27) rfl rfl (by decide) (q_assign rfl) ?_
      refine GoOps.nil ?_
      refine Go.seq ?_
      refine Go.region rfl ?_
      refine GoOps.q (v := .int .i64 y27) rfl rfl (by decide) (q_move rfl) ?_
      refine GoOps.q (v := .bool (decide (0 < y27))) rfl rfl (by decide) (q_gtr rfl rfl) ?_
      refine GoOps.nil ?_
      refine join_goM 1 (fun _ => ()) (fun ρ (s28 : Unit) => ρ 1 = .pointer (some a1) ∧ ρ 2 = .pointer (some a4) ∧ ρ 3 = .int .i64 x17) hB h ?_ ?_ <;> clear h
      · intro s28 H30 ρ h hE
        obtain ⟨e31_1, e31_2, e31_3⟩ := hE
        intro D M hM hB hA
        refine Go.region rfl ?_
        obtain ⟨x32, hx33, h⟩ := h
        refine GoOps.q (v := .pointer x32) rfl rfl (by decide) (q_load scalar24 e31_1 hx33) ?_
        obtain ⟨a34, ha35, h⟩ := h
        refine GoOps.q (v := .pointer (some a34)) rfl rfl (by decide) (q_nilCheck (ptn rfl ha35)) ?_
        refine GoOps.q (v := .pointer (some (a34.add 1))) rfl rfl (by decide) (q_fieldAddr foff51_1 rfl) ?_
        obtain ⟨x36, hx37, h⟩ := h
        refine GoOps.q (v := .pointer x36) rfl rfl (by decide) (q_load scalar48 rfl hx37) ?_
        refine GoOps.q (v := .int .i64 x17) rfl rfl (by decide) (q_move e31_3) ?_
        refine call_dst rfl (by decide) body31 (paged_Paged_int_Set_s _ _ _ _ _ h) rfl ?_
        rintro _ H38 ⟨y39, rfl, h⟩
        refine GoOps.nil ?_
        refine Go.inBlock ?_
        exact Go.fallM (g := ()) hM hB hA ⟨0, rfl, h⟩
      · intro j29 hj29 h
        rcases bor (decide (0 < y27)) with hc40 | hc40
        · have h := h.1 hc40
          refine Go.condT (btT rfl hc40) ?_
          refine Go.region rfl ?_
          obtain ⟨x41, hx42, h⟩ := h
          refine GoOps.q (v := Sl.v x41) rfl rfl (by decide) (q_load scalar26 rfl hx42) ?_
          refine GoOps.q (v := .int .i64 y27) rfl rfl (by decide) (q_move rfl) ?_
          refine op_dst rfl rfl (by decide) (do_bs (ps := [(0, .int .i64 y27)]) (zs := [.int .i64 0]) (cs := [.int .i64 y27]) slice26 zero3 rfl rfl (by decide) (by decide) rfl rfl fun r43 H44 hb45 => ?_) 
          have h := h r43 H44 hb45
          refine op_dst rfl rfl (by decide) (do_append (zs := [.int .i64 0]) slice26 bytes3 (by decide) zero3 rfl rfl (by decide) rfl rfl Try.underlying26 rfl h fun r46 H47 h => ?_) 
          obtain ⟨q49b, q49o, q49c, q49e, hq49a, hq49b, hq49l, hq49v, h⟩ := h
          refine op_none rfl rfl (do_store (vs := [Sl.v r46]) size26 (pta rfl hq49a) rfl rfl rfl hq49v hq49b hq49l ?_) 
          refine GoOps.nil ?_
          exact hj29 () _ _ h (by exact ⟨rfl, rfl, rfl⟩) _ _ hM hB hA
        · have h := h.2 hc40
          refine Go.condF (btF rfl hc40) ?_
          refine Go.skip ?_
          exact hj29 () _ _ h (by exact ⟨rfl, rfl, rfl⟩) _ _ hM hB hA
  · intro q51 H52 h
    intro D M hM hB hA
    refine Go.inBlock ?_
    refine Go.seq ?_
    refine Go.region rfl ?_
    obtain ⟨x53, hx54, h⟩ := h
    refine GoOps.q (v := Sl.v x53) rfl rfl (by decide) (q_load scalar26 rfl hx54) ?_
    obtain ⟨q56b, q56o, q56c, q56e, hq56a, hq56b, hq56l, hq56v, h⟩ := h
    refine op_none rfl rfl (do_store (vs := [Sl.v x53]) size26 (pta rfl hq56a) rfl rfl rfl hq56v hq56b hq56l ?_) 
    refine GoOps.nil ?_
    obtain ⟨x57, hx58, h⟩ := h
    exact Go.retM (g := ()) hM hB hA ⟨.inl rfl, _, (resOkV1 Try.results11 (rv_cell scalar26 rfl hx58)), ⟨_, rfl, h⟩⟩

/-- (*keelson.image.Image).Put -/
def image_Image_Put (p0 : Option Addr) (p1 : Int) (p2 : Int) (H : PH) (Q : Int → Bool → PH → Prop) : Prop :=
  image_Image_one p0 false p1 p2 H fun y2 y3 H1 =>
  Q y2 y3 H1

set_option maxRecDepth 20000 in
set_option maxHeartbeats 1000000 in
theorem image_Image_Put_s (p0 : Option Addr) (p1 : Int) (p2 : Int) (H : PH) (Q : Int → Bool → PH → Prop) (h : image_Image_Put p0 p1 p2 H Q) :
    CallsH Try.prog 13 #[.pointer p0, .int .i64 p1, .int .i64 p2] H (fun v H' => ∃ (r0 : Int) (r1 : Bool), v = .tuple #[.int .i64 r0, .bool r1] ∧ Q r0 r1 H') := by
  unfold image_Image_Put at h
  refine callsH_of_go Try.func13 rfl Try.ntmps13 (Nat.le_of_ble_eq_true rfl) ?_
  refine Go.seq ?_
  refine Go.region rfl ?_
  refine GoOps.q (v := .int .i64 0) rfl rfl (by decide) (q_assign rfl) ?_
  refine GoOps.q (v := .bool false) rfl rfl (by decide) (q_assign rfl) ?_
  refine GoOps.nil ?_
  refine Go.seq ?_
  refine Go.region rfl ?_
  refine GoOps.q (v := .pointer p0) rfl rfl (by decide) (q_move rfl) ?_
  refine GoOps.q (v := .int .i64 p1) rfl rfl (by decide) (q_move rfl) ?_
  refine GoOps.q (v := .int .i64 p2) rfl rfl (by decide) (q_move rfl) ?_
  refine call_dst rfl (by decide) body26 (image_Image_one_s _ _ _ _ _ _ h) rfl ?_
  rintro _ H1 ⟨y2, y3, rfl, h⟩
  refine GoOps.q (v := .int .i64 y2) rfl rfl (by decide) (q_extract rfl rfl) ?_
  refine GoOps.q (v := .bool y3) rfl rfl (by decide) (q_extract rfl rfl) ?_
  refine GoOps.q (v := .int .i64 y2) rfl rfl (by decide) (q_assign rfl) ?_
  refine GoOps.q (v := .bool y3) rfl rfl (by decide) (q_assign rfl) ?_
  refine GoOps.nil ?_
  exact Go.ret ⟨.inl rfl, _, _, DOk.nil, (resOk2 Try.results13 rfl rfl), ⟨_, _, rfl, h⟩⟩

/-- (*keelson.image.Image).Pending -/
def image_Image_Pending (p0 : Option Addr) (H : PH) (Q : Int → PH → Prop) : Prop :=
  mNew H (row [.int .i64 0] 3) fun a1 H2 =>
  image_Image_table p0 true H2 fun y5 H4 =>
  paged_Paged_int_All y5 H4 fun y7 H6 =>
  IterH Try.prog y7 (fun (vs8 : List Value) (q9 : Unit) (H10 : PH) (y11 : Nat → Unit → PH → Prop) =>
  ∃ (x12 : Int) (x13 : Int), vs8 = [.int .i64 x12, .int .i64 x13] ∧
  mIf (x13 != (-1))
  (mLd (.int .i64) H10 a1 fun x15 =>
  mSt H10 a1 ([.int .i64 (IntKind.wrap .i64 (x15 + 1))]) fun H17 =>
  y11 0 () H17)
  (y11 0 () H10)) () H6 fun _ q20 H21 =>
  mLd (.int .i64) H21 a1 fun x22 =>
  mSt H21 a1 ([.int .i64 x22]) fun H24 =>
  mLd (.int .i64) H24 a1 fun x26 =>
  Q x26 H24

set_option maxRecDepth 20000 in
set_option maxHeartbeats 1000000 in
theorem image_Image_Pending_s (p0 : Option Addr) (H : PH) (Q : Int → PH → Prop) (h : image_Image_Pending p0 H Q) :
    CallsH Try.prog 17 #[.pointer p0] H (fun v H' => ∃ (r0 : Int), v = .int .i64 r0 ∧ Q r0 H') := by
  unfold image_Image_Pending at h
  refine callsH_of_goM Try.func17 rfl Try.ntmps17 (Nat.le_of_ble_eq_true rfl) ?_
  intro D M hM hB hA
  refine Go.seq ?_
  refine Go.region rfl ?_
  refine op_dst rfl rfl (by decide) (do_new zero3 rfl fun a1 H2 hb3 => ?_) 
  have h := h a1 H2 hb3
  refine GoOps.nil ?_
  refine Go.seq ?_
  refine Go.seq ?_
  refine Go.region rfl ?_
  refine GoOps.q (v := .pointer p0) rfl rfl (by decide) (q_move rfl) ?_
  refine call_dst rfl (by decide) body28 (image_Image_table_s _ _ _ _ h) rfl ?_
  rintro _ H4 ⟨y5, rfl, h⟩
  refine call_dst rfl (by decide) body29 (paged_Paged_int_All_s _ _ _ h) rfl ?_
  rintro y7 H6 ⟨_, rfl, h⟩
  refine GoOps.nil ?_
  refine Go.block ?_
  refine go_range0 (g := ()) h rfl (fun _ _ _ h => h) rfl hM hB hA trivial ?_ ?_ <;> clear h
  · rintro _ q9 H10 y11 ⟨x12, x13, rfl, h⟩
    refine ⟨rfl, fun lp Bx r hr => ?_⟩
    clear hM hB hA
    intro D M hM hB hA
    refine Go.region rfl ?_
    refine GoOps.q (v := .int .i64 x13) rfl rfl (by decide) (q_assign rfl) ?_
    refine GoOps.nil ?_
    refine go_begin (g := ()) hr hB hA fun M hB hA => ?_
    have hM : Mk (some lp) D M := trivial
    refine Go.block ?_
    refine Go.seq ?_
    refine Go.region rfl ?_
    refine GoOps.q (v := .int .i64 x13) rfl rfl (by decide) (q_move rfl) ?_
    refine GoOps.q (v := .bool (x13 != (-1))) rfl rfl (by decide) (q_neq rfl rfl) ?_
    refine GoOps.nil ?_
    rcases bor (x13 != (-1)) with hc14 | hc14
    · have h := h.1 hc14
      refine Go.condT (btT rfl hc14) ?_
      refine Go.region rfl ?_
      obtain ⟨x15, hx16, h⟩ := h
      refine GoOps.q (v := .int .i64 x15) rfl rfl (by decide) (q_load scalar3 rfl hx16) ?_
      refine GoOps.q (v := .int .i64 (IntKind.wrap .i64 (x15 + 1))) rfl rfl (by decide) (q_add rfl rfl) ?_
      obtain ⟨q18b, q18o, q18c, q18e, hq18a, hq18b, hq18l, hq18v, h⟩ := h
      refine op_none rfl rfl (do_store (vs := [.int .i64 (IntKind.wrap .i64 (x15 + 1))]) size3 (pta rfl hq18a) rfl rfl rfl hq18v hq18b hq18l ?_) 
      refine GoOps.nil ?_
      refine Go.inBlock ?_
      exact Go.fallM (g := ()) hM hB hA ⟨0, rfl, h⟩
    · have h := h.2 hc14
      refine Go.condF (btF rfl hc14) ?_
      refine Go.skip ?_
      refine Go.inBlock ?_
      exact Go.fallM (g := ()) hM hB hA ⟨0, rfl, h⟩
  · intro q20 H21 h
    intro D M hM hB hA
    refine Go.inBlock ?_
    refine Go.seq ?_
    refine Go.region rfl ?_
    obtain ⟨x22, hx23, h⟩ := h
    refine GoOps.q (v := .int .i64 x22) rfl rfl (by decide) (q_load scalar3 rfl hx23) ?_
    obtain ⟨q25b, q25o, q25c, q25e, hq25a, hq25b, hq25l, hq25v, h⟩ := h
    refine op_none rfl rfl (do_store (vs := [.int .i64 x22]) size3 (pta rfl hq25a) rfl rfl rfl hq25v hq25b hq25l ?_) 
    refine GoOps.nil ?_
    obtain ⟨x26, hx27, h⟩ := h
    exact Go.retM (g := ()) hM hB hA ⟨.inl rfl, _, (resOkV1 Try.results17 (rv_cell scalar3 rfl hx27)), ⟨_, rfl, h⟩⟩

/-- (*keelson.paged.Paged[int]).Pages -/
def paged_Paged_int_Pages (p0 : Option Addr) (H : PH) (Q : Int → PH → Prop) : Prop :=
  mIf (Option.isNone p0)
  (Q 0 H)
  (mNil p0 fun a2 =>
  mLd Sl.v H (a2.add 2) fun x4 =>
  Q (x4.len : Int) H)

set_option maxRecDepth 20000 in
set_option maxHeartbeats 1000000 in
theorem paged_Paged_int_Pages_s (p0 : Option Addr) (H : PH) (Q : Int → PH → Prop) (h : paged_Paged_int_Pages p0 H Q) :
    CallsH Try.prog 43 #[.pointer p0] H (fun v H' => ∃ (r0 : Int), v = .int .i64 r0 ∧ Q r0 H') := by
  unfold paged_Paged_int_Pages at h
  refine callsH_of_go Try.func43 rfl Try.ntmps43 (Nat.le_of_ble_eq_true rfl) ?_
  refine Go.seq ?_
  refine Go.region rfl ?_
  refine GoOps.q (v := .int .i64 0) rfl rfl (by decide) (q_assign rfl) ?_
  refine GoOps.nil ?_
  refine Go.seq ?_
  refine Go.seq ?_
  refine Go.region rfl ?_
  refine GoOps.q (v := .pointer p0) rfl rfl (by decide) (q_move rfl) ?_
  refine GoOps.q (v := .bool (Option.isNone p0)) rfl rfl (by decide) (q_eqlPn Try.underlying48 rfl rfl) ?_
  refine GoOps.nil ?_
  rcases bor (Option.isNone p0) with hc1 | hc1
  · have h := h.1 hc1
    refine Go.condT (btT rfl hc1) ?_
    refine Go.seq ?_
    refine Go.region rfl ?_
    refine GoOps.q (v := .int .i64 0) rfl rfl (by decide) (q_assign rfl) ?_
    refine GoOps.nil ?_
    exact Go.ret ⟨.inl rfl, _, _, DOk.nil, (resOk1 Try.results43 rfl), ⟨_, rfl, h⟩⟩
  · have h := h.2 hc1
    refine Go.condF (btF rfl hc1) ?_
    refine Go.skip ?_
    refine Go.seq ?_
    refine Go.region rfl ?_
    refine GoOps.q (v := .pointer p0) rfl rfl (by decide) (q_move rfl) ?_
    obtain ⟨a2, ha3, h⟩ := h
    refine GoOps.q (v := .pointer (some a2)) rfl rfl (by decide) (q_nilCheck (ptn rfl ha3)) ?_
    refine GoOps.q (v := .pointer (some (a2.add 2))) rfl rfl (by decide) (q_fieldAddr foff66_2 rfl) ?_
    obtain ⟨x4, hx5, h⟩ := h
    refine GoOps.q (v := Sl.v x4) rfl rfl (by decide) (q_load scalar38 rfl hx5) ?_
    refine GoOps.q (v := .int .i64 (x4.len : Int)) rfl rfl (by decide) (q_len Try.underlying38 rfl (ls1 rfl)) ?_
    refine GoOps.q (v := .int .i64 (x4.len : Int)) rfl rfl (by decide) (q_assign rfl) ?_
    refine GoOps.nil ?_
    exact Go.ret ⟨.inl rfl, _, _, DOk.nil, (resOk1 Try.results43 rfl), ⟨_, rfl, h⟩⟩

/-- (*keelson.paged.Paged[int]).Dirty$1 -/
def paged_Paged_int_Dirty_c1 {γ : Type} (c0 : Addr) (Y : List Value → γ → PH → (Nat → γ → PH → Prop) → Prop) (g : γ) (H : PH) (Q : Nat → γ → PH → Prop) : Prop :=
  mLd .pointer H c0 fun x1 =>
  paged_Paged_int_Pages x1 H fun y4 H3 =>
  mLoop (fun (s5 : Int × (Nat × γ)) (H8 : PH) (again6 : (Int × (Nat × γ)) → PH → Prop) =>
  mIf (decide (s5.1 < y4))
  (mLd .pointer H8 c0 fun x10 =>
  mNil x10 fun a12 =>
  mLd Sl.v H8 (a12.add 2) fun x14 =>
  mIdx x14 1 s5.1 fun a16 =>
  mLd .bool H8 a16 fun x18 =>
  mJoin (fun (s21 : Bool × (Nat × γ)) (H23 : PH) =>
  mIf s21.1
  (Q s21.2.1 s21.2.2 H23)
  (again6 (IntKind.wrap .i64 (s5.1 + 1), s21.2) H23))
  fun j22 =>
  mIf x18
  (mYield Y s5.2 [.int .i64 s5.1] H8 fun q26 H27 =>
  j22 (!(q26.1 == 0), q26) H27)
  (j22 (false, s5.2) H8))
  (Q s5.2.1 s5.2.2 H8))
  (0, (0, g)) H3

set_option maxRecDepth 20000 in
set_option maxHeartbeats 1000000 in
theorem paged_Paged_int_Dirty_c1_s {γ : Type} (c0 : Addr) (Y : List Value → γ → PH → (Nat → γ → PH → Prop) → Prop) (g : γ) (H : PH) (Q : Nat → γ → PH → Prop) (h : paged_Paged_int_Dirty_c1 c0 Y g H Q) :
    IterH Try.prog (.func (.func 42) #[] #[.pointer (some c0)]) Y g H Q := by
  unfold paged_Paged_int_Dirty_c1 at h
  refine iterH_of_goM (fi := []) (ca := [.pointer (some c0)]) body42 Try.func42 rfl Try.ntmps42 (Nat.le_of_ble_eq_true rfl) fun l Tk hd hy => ?_
  generalize hyv : Value.func (.yield l) #[] #[] = yv
  intro D M hM hB hA
  refine Go.seq ?_
  refine Go.region rfl ?_
  obtain ⟨x1, hx2, h⟩ := h
  refine GoOps.q (v := .pointer x1) rfl rfl (by decide) (q_load scalar48 rfl hx2) ?_
  refine call_dst rfl (by decide) body43 (paged_Paged_int_Pages_s _ _ _ h) rfl ?_
  rintro _ H3 ⟨y4, rfl, h⟩
  refine GoOps.q (v := .int .i64 0) rfl rfl (by decide) (q_move rfl) ?_
  refine GoOps.nil ?_
  refine Go.block ?_
  refine loop_goM (g := (0, g)) (fun s5 => s5.2) (fun ρ (s5 : Int × (Nat × γ)) => ρ 0 = yv ∧ ρ 1 = .pointer (some c0) ∧ ρ 5 = .int .i64 y4 ∧ ρ 6 = .int .i64 s5.1) hM hB hA h ⟨rfl, rfl, rfl, rfl⟩ rfl ?_
  clear h
  intro ρ s5 H8 again6 hE h hagain6
  obtain ⟨e7_0, e7_1, e7_5, e7_6⟩ := hE
  intro D M hM hB hA
  refine Go.seq ?_
  refine Go.region rfl ?_
  refine GoOps.q (v := .bool (decide (s5.1 < y4))) rfl rfl (by decide) (q_lss e7_6 e7_5) ?_
  refine GoOps.nil ?_
  refine Go.seq ?_
  rcases bor (decide (s5.1 < y4)) with hc9 | hc9
  · have h := h.1 hc9
    refine Go.condT (btT rfl hc9) ?_
    refine Go.skip ?_
    refine Go.seq ?_
    refine Go.block ?_
    refine Go.seq ?_
    refine Go.region rfl ?_
    refine GoOps.q (v := .int .i64 s5.1) rfl rfl (by decide) (q_move e7_6) ?_
    refine GoOps.q (v := .int .i64 s5.1) rfl rfl (by decide) (q_assign rfl) ?_
    refine GoOps.nil ?_
    refine Go.seq ?_
    refine Go.region rfl ?_
    obtain ⟨x10, hx11, h⟩ := h
    refine GoOps.q (v := .pointer x10) rfl rfl (by decide) (q_load scalar48 e7_1 hx11) ?_
    obtain ⟨a12, ha13, h⟩ := h
    refine GoOps.q (v := .pointer (some a12)) rfl rfl (by decide) (q_nilCheck (ptn rfl ha13)) ?_
    refine GoOps.q (v := .pointer (some (a12.add 2))) rfl rfl (by decide) (q_fieldAddr foff66_2 rfl) ?_
    obtain ⟨x14, hx15, h⟩ := h
    refine GoOps.q (v := Sl.v x14) rfl rfl (by decide) (q_load scalar38 rfl hx15) ?_
    refine GoOps.q (v := .int .i64 s5.1) rfl rfl (by decide) (q_move rfl) ?_
    obtain ⟨a16, ha17, h⟩ := h
    refine GoOps.q (v := .pointer (some a16)) rfl rfl (by decide) (q_idx slice38 ha17 rfl rfl) ?_
    obtain ⟨x18, hx19, h⟩ := h
    refine GoOps.q (v := .bool x18) rfl rfl (by decide) (q_load scalar4 rfl hx19) ?_
    refine GoOps.q (v := .bool x18) rfl rfl (by decide) (q_move rfl) ?_
    refine join_opsM (TT := fun q : Nat × γ => Tk q.1 q.2) (M := M) 5 (fun s21 => s21.2) (fun ρ (s21 : Bool × (Nat × γ)) => ρ 0 = yv ∧ ρ 1 = .pointer (some c0) ∧ ρ 5 = .int .i64 y4 ∧ ρ 6 = .int .i64 s5.1 ∧ ρ 21 = .bool s21.1) h ?_ ?_ <;> clear h
    · intro s21 H23 ρ h hE
      obtain ⟨e24_0, e24_1, e24_5, e24_6, e24_21⟩ := hE
      refine GoOps.nil ?_
      rcases bor s21.1 with hc25 | hc25
      · have h := h.1 hc25
        refine Go.condT (btT e24_21 hc25) ?_
        exact Go.retM (g := s21.2) hM hB hA ⟨.inl rfl, _, (resOk0 Try.results42), h⟩
      · have h := h.2 hc25
        refine Go.condF (btF e24_21 hc25) ?_
        refine Go.skip ?_
        refine Go.inBlock ?_
        refine Go.region rfl ?_
        refine GoOps.q (v := .int .i64 (IntKind.wrap .i64 (s5.1 + 1))) rfl rfl (by decide) (q_add e24_6 rfl) ?_
        refine GoOps.q (v := .int .i64 (IntKind.wrap .i64 (s5.1 + 1))) rfl rfl (by decide) (q_move rfl) ?_
        refine GoOps.nil ?_
        exact hagain6 (IntKind.wrap .i64 (s5.1 + 1), s21.2) _ _ h (by exact ⟨e24_0, e24_1, e24_5, rfl⟩) _ _ hM hB hA
    · intro j22 hj22 h
      rcases bor x18 with hc20 | hc20
      · have h := h.1 hc20
        refine GoOps.q (v := yv) (want_yes rfl rfl rfl hc20) rfl (by decide) (q_move e7_0) ?_
        refine GoOps.q (v := .int .i64 s5.1) (want_yes rfl rfl rfl hc20) rfl (by decide) (q_move rfl) ?_
        refine op_dst (want_yes rfl rfl rfl hc20) rfl (by decide) (do_yieldP (q := s5.2) hy hA (Eq.trans rfl hyv.symm) rfl h fun q26 H27 h => ?_) 
        refine GoOps.q (v := .bool (!(q26.1 == 0))) (want_yes rfl rfl rfl hc20) rfl (by decide) (q_not rfl) ?_
        refine GoOps.q (v := .bool (!(q26.1 == 0))) rfl rfl (by decide) (q_pickT (btT rfl hc20) rfl) ?_
        exact hj22 (!(q26.1 == 0), q26) _ _ h (by exact ⟨e7_0, e7_1, e7_5, e7_6, rfl⟩)
      · have h := h.2 hc20
        refine no_dst (want_no rfl rfl rfl hc20) rfl (by decide) ?_
        refine no_dst (want_no rfl rfl rfl hc20) rfl (by decide) ?_
        refine no_dst (want_no rfl rfl rfl hc20) rfl (by decide) ?_
        refine no_dst (want_no rfl rfl rfl hc20) rfl (by decide) ?_
        refine GoOps.q (v := .bool false) rfl rfl (by decide) (q_pickF (btF rfl hc20) rfl) ?_
        exact hj22 (false, s5.2) _ _ h (by exact ⟨e7_0, e7_1, e7_5, e7_6, rfl⟩)
  · have h := h.2 hc9
    refine Go.condF (btF rfl hc9) ?_
    refine Go.exit rfl ?_
    exact Go.fallM (g := s5.2) hM hB hA ⟨.inr rfl, _, (resOk0 Try.results42), h⟩

/-- (*keelson.paged.Paged[int]).Dirty -/
def paged_Paged_int_Dirty (p0 : Option Addr) (H : PH) (Q : Value → PH → Prop) : Prop :=
  mNew H (row [.pointer p0] 48) fun a1 H2 =>
  Q (.func (.func 42) #[] #[.pointer (some a1)]) H2

set_option maxRecDepth 20000 in
set_option maxHeartbeats 1000000 in
theorem paged_Paged_int_Dirty_s (p0 : Option Addr) (H : PH) (Q : Value → PH → Prop) (h : paged_Paged_int_Dirty p0 H Q) :
    CallsH Try.prog 40 #[.pointer p0] H (fun v H' => ∃ (r0 : Value), v = r0 ∧ Q r0 H') := by
  unfold paged_Paged_int_Dirty at h
  refine callsH_of_go Try.func40 rfl Try.ntmps40 (Nat.le_of_ble_eq_true rfl) ?_
  refine Go.seq ?_
  refine Go.region rfl ?_
  refine op_dst rfl rfl (by decide) (do_newBox (cs := [.pointer p0]) rfl rfl fun a1 H2 hb3 => ?_) 
  have h := h a1 H2 hb3
  refine GoOps.q (v := .nilFunc) rfl rfl (by decide) (q_assign rfl) ?_
  refine GoOps.nil ?_
  refine Go.seq ?_
  refine Go.region rfl ?_
  refine GoOps.q (v := (.func (.func 42) #[] #[.pointer (some a1)])) rfl rfl (by decide) (q_makeFunc rfl rfl) ?_
  refine GoOps.q (v := (.func (.func 42) #[] #[.pointer (some a1)])) rfl rfl (by decide) (q_assign rfl) ?_
  refine GoOps.nil ?_
  exact Go.ret ⟨.inl rfl, _, _, DOk.nil, (resOk1 Try.results40 rfl), ⟨_, rfl, h⟩⟩

/-- (*keelson.image.Image).Dirty -/
def image_Image_Dirty (p0 : Option Addr) (p1 : Bool) (H : PH) (Q : Value → PH → Prop) : Prop :=
  image_Image_table p0 p1 H fun y2 H1 =>
  paged_Paged_int_Dirty y2 H1 fun y4 H3 =>
  Q y4 H3

set_option maxRecDepth 20000 in
set_option maxHeartbeats 1000000 in
theorem image_Image_Dirty_s (p0 : Option Addr) (p1 : Bool) (H : PH) (Q : Value → PH → Prop) (h : image_Image_Dirty p0 p1 H Q) :
    CallsH Try.prog 36 #[.pointer p0, .bool p1] H (fun v H' => ∃ (r0 : Value), v = r0 ∧ Q r0 H') := by
  unfold image_Image_Dirty at h
  refine callsH_of_go Try.func36 rfl Try.ntmps36 (Nat.le_of_ble_eq_true rfl) ?_
  refine Go.seq ?_
  refine Go.region rfl ?_
  refine GoOps.q (v := .nilFunc) rfl rfl (by decide) (q_assign rfl) ?_
  refine GoOps.nil ?_
  refine Go.seq ?_
  refine Go.region rfl ?_
  refine GoOps.q (v := .pointer p0) rfl rfl (by decide) (q_move rfl) ?_
  refine GoOps.q (v := .bool p1) rfl rfl (by decide) (q_move rfl) ?_
  refine call_dst rfl (by decide) body28 (image_Image_table_s _ _ _ _ h) rfl ?_
  rintro _ H1 ⟨y2, rfl, h⟩
  refine call_dst rfl (by decide) body40 (paged_Paged_int_Dirty_s _ _ _ h) rfl ?_
  rintro y4 H3 ⟨_, rfl, h⟩
  refine GoOps.q (v := y4) rfl rfl (by decide) (q_assign rfl) ?_
  refine GoOps.nil ?_
  exact Go.ret ⟨.inl rfl, _, _, DOk.nil, (resOk1 Try.results36 rfl), ⟨_, rfl, h⟩⟩

/-- keelson.keelsonlaw16.dirty -/
def keelsonlaw16_dirty (p0 : Option Addr) (p1 : Bool) (p2 : Int) (H : PH) (Q : Sl → PH → Prop) : Prop :=
  mNew H (row [.int .i64 p2] 3) fun a1 H2 =>
  image_Image_Dirty p0 p1 H2 fun y5 H4 =>
  mBoth (IsFn y5) <|
  mIf (fisNil y5)
  (Q Sl.nil H4)
  (mNew H4 (row [.slice none 0 0] 26) fun a8 H9 =>
  mJoin (fun (s11 : Unit) (H13 : PH) =>
  mLd Sl.v H13 a8 fun x15 =>
  Q x15 H13)
  fun j12 =>
  IterH Try.prog y5 (fun (vs17 : List Value) (q18 : Unit) (H19 : PH) (y20 : Nat → Unit → PH → Prop) =>
  ∃ (x21 : Int), vs17 = [.int .i64 x21] ∧
  mLd Sl.v H19 a8 fun x22 =>
  mLd (.int .i64) H19 a1 fun x24 =>
  mIf (decide (x24 ≤ (x22.len : Int)))
  (y20 1 () H19)
  (mLd Sl.v H19 a8 fun x27 =>
  mNewS H19 (row [.int .i64 x21] 3) 1 fun r29 H30 =>
  mApp H30 3 1 8 [.int .i64 0] x27 r29 fun r32 H33 =>
  mSt H33 a8 ([Sl.v r32]) fun H34 =>
  y20 0 () H34)) () H9 fun j36 q37 H38 =>
  mIf (j36 == 1)
  (j12 () H38)
  (j12 () H38))

set_option maxRecDepth 20000 in
set_option maxHeartbeats 1000000 in
theorem keelsonlaw16_dirty_s (p0 : Option Addr) (p1 : Bool) (p2 : Int) (H : PH) (Q : Sl → PH → Prop) (h : keelsonlaw16_dirty p0 p1 p2 H Q) :
    CallsH Try.prog 23 #[.pointer p0, .bool p1, .int .i64 p2] H (fun v H' => ∃ (r0 : Sl), v = Sl.v r0 ∧ Q r0 H') := by
  unfold keelsonlaw16_dirty at h
  refine callsH_of_goM Try.func23 rfl Try.ntmps23 (Nat.le_of_ble_eq_true rfl) ?_
  intro D M hM hB hA
  refine Go.seq ?_
  refine Go.region rfl ?_
  refine op_dst rfl rfl (by decide) (do_newBox (cs := [.int .i64 p2]) rfl rfl fun a1 H2 hb3 => ?_) 
  have h := h a1 H2 hb3
  refine GoOps.q (v := Sl.v Sl.nil) rfl rfl (by decide) (q_assign rfl) ?_
  refine GoOps.nil ?_
  refine Go.seq ?_
  refine Go.region rfl ?_
  refine GoOps.q (v := .pointer p0) rfl rfl (by decide) (q_move rfl) ?_
  refine GoOps.q (v := .bool p1) rfl rfl (by decide) (q_move rfl) ?_
  refine call_dst rfl (by decide) body36 (image_Image_Dirty_s _ _ _ _ h) rfl ?_
  rintro y5 H4 ⟨_, rfl, h⟩
  refine GoOps.q (v := y5) rfl rfl (by decide) (q_assign rfl) ?_
  refine GoOps.nil ?_
  refine Go.seq ?_
  refine Go.seq ?_
  refine Go.region rfl ?_
  refine GoOps.q (v := y5) rfl rfl (by decide) (q_move rfl) ?_
  obtain ⟨hf6, h⟩ := h
  refine GoOps.q (v := .bool (fisNil y5)) rfl rfl (by decide) (q_eqlFv Try.underlying62 rfl rfl hf6) ?_
  refine GoOps.nil ?_
  rcases bor (fisNil y5) with hc7 | hc7
  · have h := h.1 hc7
    refine Go.condT (btT rfl hc7) ?_
    refine Go.seq ?_
    refine Go.region rfl ?_
    refine GoOps.q (v := Sl.v Sl.nil) rfl rfl (by decide) (q_assign rfl) ?_
    refine GoOps.nil ?_
    exact Go.retM (g := ()) hM hB hA ⟨.inl rfl, _, (resOk1 Try.results23 rfl), ⟨_, rfl, h⟩⟩
  · have h := h.2 hc7
    refine Go.condF (btF rfl hc7) ?_
    refine Go.skip ?_
    refine Go.seq ?_
    refine Go.region rfl ?_
    refine op_dst rfl rfl (by decide) (do_new zero26 rfl fun a8 H9 hb10 => ?_) 
    have h := h a8 H9 hb10
    refine GoOps.nil ?_
    refine Go.seq ?_
    refine Go.seq ?_
    refine Go.region rfl ?_
    refine GoOps.q (v := y5) rfl rfl (by decide) (q_move rfl) ?_
    refine GoOps.nil ?_
    refine join_goM 1 (fun _ => ()) (fun ρ (s11 : Unit) => ρ 8 = .pointer (some a8)) hB h ?_ ?_ <;> clear h
    · intro s11 H13 ρ h hE
      have e14_8 := hE
      intro D M hM hB hA
      refine Go.seq ?_
      refine Go.region rfl ?_
      obtain ⟨x15, hx16, h⟩ := h
      refine GoOps.q (v := Sl.v x15) rfl rfl (by decide) (q_load scalar26 e14_8 hx16) ?_
      refine GoOps.q (v := Sl.v x15) rfl rfl (by decide) (q_assign rfl) ?_
      refine GoOps.nil ?_
      exact Go.retM (g := ()) hM hB hA ⟨.inl rfl, _, (resOk1 Try.results23 rfl), ⟨_, rfl, h⟩⟩
    · intro j12 hj12 h
      refine Go.block ?_
      refine go_range1 (g := ()) (c1 := .exit 0) h rfl (fun _ _ _ h => h) rfl hM hB hA trivial ?_ ?_ ?_ <;> clear h
      · rintro _ q18 H19 y20 ⟨x21, rfl, h⟩
        refine ⟨rfl, fun lp Bx r hr => ?_⟩
        clear hM hB hA
        intro D M hM hB hA
        refine Go.region rfl ?_
        refine GoOps.q (v := .int .i64 x21) rfl rfl (by decide) (q_assign rfl) ?_
        refine GoOps.nil ?_
        refine go_begin (g := ()) hr hB hA fun M hB hA => ?_
        have hM : Mk (some lp) D M := trivial
        refine Go.block ?_
        refine Go.seq ?_
        refine Go.seq ?_
        refine Go.region rfl ?_
        obtain ⟨x22, hx23, h⟩ := h
        refine GoOps.q (v := Sl.v x22) rfl rfl (by decide) (q_load scalar26 rfl hx23) ?_
        refine GoOps.q (v := .int .i64 (x22.len : Int)) rfl rfl (by decide) (q_len Try.underlying26 rfl (ls1 rfl)) ?_
        obtain ⟨x24, hx25, h⟩ := h
        refine GoOps.q (v := .int .i64 x24) rfl rfl (by decide) (q_load scalar3 rfl hx25) ?_
        refine GoOps.q (v := .bool (decide (x24 ≤ (x22.len : Int)))) rfl rfl (by decide) (q_geq rfl rfl) ?_
        refine GoOps.nil ?_
        rcases bor (decide (x24 ≤ (x22.len : Int))) with hc26 | hc26
        · have h := h.1 hc26
          refine Go.condT (btT rfl hc26) ?_
          exact Go.exitM (g := ()) rfl hM hB hA ⟨1, ⟨0, rfl, rfl⟩, h⟩
        · have h := h.2 hc26
          refine Go.condF (btF rfl hc26) ?_
          refine Go.skip ?_
          refine Go.region rfl ?_
          obtain ⟨x27, hx28, h⟩ := h
          refine GoOps.q (v := Sl.v x27) rfl rfl (by decide) (q_load scalar26 rfl hx28) ?_
          refine GoOps.q (v := .int .i64 x21) rfl rfl (by decide) (q_move rfl) ?_
          refine op_dst rfl rfl (by decide) (do_bs (ps := [(0, .int .i64 x21)]) (zs := [.int .i64 0]) (cs := [.int .i64 x21]) slice26 zero3 rfl rfl (by decide) (by decide) rfl rfl fun r29 H30 hb31 => ?_) 
          have h := h r29 H30 hb31
          refine op_dst rfl rfl (by decide) (do_append (zs := [.int .i64 0]) slice26 bytes3 (by decide) zero3 rfl rfl (by decide) rfl rfl Try.underlying26 rfl h fun r32 H33 h => ?_) 
          obtain ⟨q35b, q35o, q35c, q35e, hq35a, hq35b, hq35l, hq35v, h⟩ := h
          refine op_none rfl rfl (do_store (vs := [Sl.v r32]) size26 (pta rfl hq35a) rfl rfl rfl hq35v hq35b hq35l ?_) 
          refine GoOps.nil ?_
          refine Go.inBlock ?_
          exact Go.fallM (g := ()) hM hB hA ⟨0, rfl, h⟩
      · intro q37 H38 h
        intro D M hM hB hA
        refine Go.inBlock ?_
        exact hj12 () _ _ h (by exact rfl) _ _ hM hB hA
      · intro q37 H38 h
        intro D M hM hB hA
        refine Go.exit rfl ?_
        exact hj12 () _ _ h (by exact rfl) _ _ hM hB hA

/-- keelson.keelsonalike.Ints -/
def keelsonalike_Ints (p0 : Sl) (p1 : Sl) (H : PH) (Q : Bool → PH → Prop) : Prop :=
  mIf ((p0.len : Int) != (p1.len : Int))
  (Q false H)
  (mLoop (fun (s2 : Int) (H5 : PH) (again3 : Int → PH → Prop) =>
  mIf (decide (s2 < (p0.len : Int)))
  (mIdx p0 1 s2 fun a7 =>
  mLd (.int .i64) H5 a7 fun x9 =>
  mIdx p1 1 s2 fun a11 =>
  mLd (.int .i64) H5 a11 fun x13 =>
  mIf (x9 != x13)
  (Q false H5)
  (again3 (IntKind.wrap .i64 (s2 + 1)) H5))
  (Q true H5))
  0 H)

set_option maxRecDepth 20000 in
set_option maxHeartbeats 1000000 in
theorem keelsonalike_Ints_s (p0 : Sl) (p1 : Sl) (H : PH) (Q : Bool → PH → Prop) (h : keelsonalike_Ints p0 p1 H Q) :
    CallsH Try.prog 22 #[Sl.v p0, Sl.v p1] H (fun v H' => ∃ (r0 : Bool), v = .bool r0 ∧ Q r0 H') := by
  unfold keelsonalike_Ints at h
  refine callsH_of_go Try.func22 rfl Try.ntmps22 (Nat.le_of_ble_eq_true rfl) ?_
  refine Go.seq ?_
  refine Go.region rfl ?_
  refine GoOps.q (v := .bool false) rfl rfl (by decide) (q_assign rfl) ?_
  refine GoOps.nil ?_
  refine Go.seq ?_
  refine Go.seq ?_
  refine Go.region rfl ?_
  refine GoOps.q (v := Sl.v p0) rfl rfl (by decide) (q_move rfl) ?_
  refine GoOps.q (v := .int .i64 (p0.len : Int)) rfl rfl (by decide) (q_len Try.underlying26 rfl (ls1 rfl)) ?_
  refine GoOps.q (v := Sl.v p1) rfl rfl (by decide) (q_move rfl) ?_
  refine GoOps.q (v := .int .i64 (p1.len : Int)) rfl rfl (by decide) (q_len Try.underlying26 rfl (ls1 rfl)) ?_
  refine GoOps.q (v := .bool ((p0.len : Int) != (p1.len : Int))) rfl rfl (by decide) (q_neq rfl rfl) ?_
  refine GoOps.nil ?_
  rcases bor ((p0.len : Int) != (p1.len : Int)) with hc1 | hc1
  · have h := h.1 hc1
    refine Go.condT (btT rfl hc1) ?_
    refine Go.seq ?_
    refine Go.region rfl ?_
    refine GoOps.q (v := .bool false) rfl rfl (by decide) (q_assign rfl) ?_
    refine GoOps.nil ?_
    exact Go.ret ⟨.inl rfl, _, _, DOk.nil, (resOk1 Try.results22 rfl), ⟨_, rfl, h⟩⟩
  · have h := h.2 hc1
    refine Go.condF (btF rfl hc1) ?_
    refine Go.skip ?_
    refine Go.seq ?_
    refine Go.seq ?_
    refine Go.region rfl ?_
    refine GoOps.q (v := .int .i64 0) rfl rfl (by decide) (q_assign rfl) ?_
    refine GoOps.nil ?_
    refine Go.block ?_
    refine loop_go (fun ρ (s2 : Int) => ρ 0 = Sl.v p0 ∧ ρ 1 = Sl.v p1 ∧ ρ 5 = .int .i64 s2) h ⟨rfl, rfl, rfl⟩ ?_
    clear h
    intro ρ s2 H5 again3 hE h hagain3
    obtain ⟨e4_0, e4_1, e4_5⟩ := hE
    refine Go.seq ?_
    refine Go.seq ?_
    refine Go.region rfl ?_
    refine GoOps.q (v := .int .i64 s2) rfl rfl (by decide) (q_move e4_5) ?_
    refine GoOps.q (v := Sl.v p0) rfl rfl (by decide) (q_move e4_0) ?_
    refine GoOps.q (v := .int .i64 (p0.len : Int)) rfl rfl (by decide) (q_len Try.underlying26 rfl (ls1 rfl)) ?_
    refine GoOps.q (v := .bool (decide (s2 < (p0.len : Int)))) rfl rfl (by decide) (q_lss rfl rfl) ?_
    refine GoOps.nil ?_
    rcases bor (decide (s2 < (p0.len : Int))) with hc6 | hc6
    · have h := h.1 hc6
      refine Go.condT (btT rfl hc6) ?_
      refine Go.skip ?_
      refine Go.seq ?_
      refine Go.block ?_
      refine Go.seq ?_
      refine Go.draw mixed ?_
      refine plan_pure (i := 0) (d := 17) (S2 := 1) (v := Sl.v p0) rfl (by decide +kernel) rfl (q_move e4_0) ?_
      refine plan_pure (i := 1) (d := 18) (S2 := 3) (v := .int .i64 s2) rfl (by decide +kernel) rfl (q_move e4_5) ?_
      obtain ⟨a7, ha8, h⟩ := h
      refine plan_pure (i := 2) (d := 19) (S2 := 7) (v := .pointer (some a7)) rfl (by decide +kernel) rfl (q_idx slice26 ha8 rfl rfl) ?_
      obtain ⟨x9, hx10, h⟩ := h
      refine plan_load (i := 3) (d := 20) (S2 := 15) (v := .int .i64 x9) rfl (by decide +kernel) rfl (q_load scalar3 rfl hx10) ?_
      refine plan_pure (i := 4) (d := 21) (S2 := 31) (v := Sl.v p1) rfl (by decide +kernel) rfl (q_move e4_1) ?_
      refine plan_pure (i := 5) (d := 22) (S2 := 63) (v := .int .i64 s2) rfl (by decide +kernel) rfl (q_move e4_5) ?_
      obtain ⟨a11, ha12, h⟩ := h
      refine plan_pure (i := 6) (d := 23) (S2 := 127) (v := .pointer (some a11)) rfl (by decide +kernel) rfl (q_idx slice26 ha12 rfl rfl) ?_
      obtain ⟨x13, hx14, h⟩ := h
      refine plan_load (i := 7) (d := 24) (S2 := 255) (v := .int .i64 x13) rfl (by decide +kernel) rfl (q_load scalar3 rfl hx14) ?_
      refine plan_pure (i := 8) (d := 25) (S2 := 511) (v := .bool (x9 != x13)) rfl (by decide +kernel) rfl (q_neq rfl rfl) ?_
      refine plan_done (by decide +kernel) ?_
      rcases bor (x9 != x13) with hc15 | hc15
      · have h := h.1 hc15
        refine Go.condT (btT rfl hc15) ?_
        refine Go.seq ?_
        refine Go.region rfl ?_
        refine GoOps.q (v := .bool false) rfl rfl (by decide) (q_assign rfl) ?_
        refine GoOps.nil ?_
        exact Go.ret ⟨.inl rfl, _, _, DOk.nil, (resOk1 Try.results22 rfl), ⟨_, rfl, h⟩⟩
      · have h := h.2 hc15
        refine Go.condF (btF rfl hc15) ?_
        refine Go.skip ?_
        refine Go.inBlock ?_
        refine Go.region rfl ?_
        refine GoOps.q (v := .int .i64 s2) rfl rfl (by decide) (q_move e4_5) ?_
        refine GoOps.q (v := .int .i64 (IntKind.wrap .i64 (s2 + 1))) rfl rfl (by decide) (q_add rfl rfl) ?_
        refine GoOps.q (v := .int .i64 (IntKind.wrap .i64 (s2 + 1))) rfl rfl (by decide) (q_assign rfl) ?_
        refine GoOps.nil ?_
        exact hagain3 _ _ _ h ⟨e4_0, e4_1, rfl⟩
    · have h := h.2 hc6
      refine Go.condF (btF rfl hc6) ?_
      refine Go.exit rfl ?_
      refine Go.seq ?_
      refine Go.region rfl ?_
      refine GoOps.q (v := .bool true) rfl rfl (by decide) (q_assign rfl) ?_
      refine GoOps.nil ?_
      exact Go.ret ⟨.inl rfl, _, _, DOk.nil, (resOk1 Try.results22 rfl), ⟨_, rfl, h⟩⟩

/-- (*keelson.image.Image).Refs$1 -/
def image_Image_Refs_c1 {γ : Type} (c0 : Addr) (yv : Value) (Y : List Value → γ → PH → (Nat → γ → PH → Prop) → Prop) (g : γ) (H : PH) (Q : Nat → γ → PH → Prop) : Prop :=
  mNew H (row [yv] 59) fun a1 H2 =>
  mLd .pointer H2 c0 fun x4 =>
  image_Image_table x4 false H2 fun y7 H6 =>
  paged_Paged_int_All y7 H6 fun y9 H8 =>
  IterH Try.prog y9 (fun (vs10 : List Value) (q11 : Nat × γ) (H12 : PH) (y13 : Nat → (Nat × γ) → PH → Prop) =>
  ∃ (x14 : Int) (x15 : Int), vs10 = [.int .i64 x14, .int .i64 x15] ∧
  mLd .pointer H12 c0 fun x16 =>
  mNil x16 fun a18 =>
  mLd .pointer H12 (a18.add 1) fun x20 =>
  paged_Paged_int_Get x20 x14 H12 fun y23 y24 H22 =>
  mJoin (fun (s26 : Bool × (Nat × γ)) (H28 : PH) =>
  mJoin (fun (s31 : Bool × (Nat × γ)) (H33 : PH) =>
  mIf s31.1
  (y13 1 s31.2 H33)
  (y13 0 s31.2 H33))
  fun j32 =>
  mIf s26.1
  (j32 (true, s26.2) H28)
  (mJoin (fun (s37 : Bool × (Nat × γ)) (H39 : PH) =>
  j32 (s37.1, s37.2) H39)
  fun j38 =>
  mIf (decide (0 < y23))
  (mLd id H28 a1 fun x41 =>
  mBoth (x41 = yv) <|
  mYield Y s26.2 [.int .i64 x14, .int .i64 y23] H28 fun q43 H44 =>
  j38 (!(q43.1 == 0), q43) H44)
  (j38 (false, s26.2) H28)))
  fun j27 =>
  mIf (decide (0 < x15))
  (mLd id H22 a1 fun x46 =>
  mBoth (x46 = yv) <|
  mYield Y q11 [.int .i64 x14, .int .i64 x15] H22 fun q48 H49 =>
  j27 (!(q48.1 == 0), q48) H49)
  (j27 (false, q11) H22)) (0, g) H8 fun j51 q52 H53 =>
  mIf (j51 == 1)
  (Q q52.1 q52.2 H53)
  (Q q52.1 q52.2 H53)

set_option maxRecDepth 20000 in
set_option maxHeartbeats 1000000 in
theorem image_Image_Refs_c1_s {γ : Type} (c0 : Addr) (Y : List Value → γ → PH → (Nat → γ → PH → Prop) → Prop) (g : γ) (H : PH) (Q : Nat → γ → PH → Prop) (h : ∀ yv, image_Image_Refs_c1 c0 yv Y g H Q) :
    IterH Try.prog (.func (.func 39) #[] #[.pointer (some c0)]) Y g H Q := by
  unfold image_Image_Refs_c1 at h
  refine iterH_of_goM (fi := []) (ca := [.pointer (some c0)]) body39 Try.func39 rfl Try.ntmps39 (Nat.le_of_ble_eq_true rfl) fun l Tk hd hy => ?_
  have h := h (.func (.yield l) #[] #[])
  generalize hyv : Value.func (.yield l) #[] #[] = yv at h ⊢
  have hyc : yv.cells = [yv].toArray := by rw [← hyv]; rfl
  intro D M hM hB hA
  refine Go.seq ?_
  refine Go.region rfl ?_
  refine op_dst rfl rfl (by decide) (do_newBox (cs := [yv]) rfl hyc fun a1 H2 hb3 => ?_) 
  have h := h a1 H2 hb3
  refine GoOps.nil ?_
  refine Go.seq ?_
  refine Go.region rfl ?_
  obtain ⟨x4, hx5, h⟩ := h
  refine GoOps.q (v := .pointer x4) rfl rfl (by decide) (q_load scalar24 rfl hx5) ?_
  refine call_dst rfl (by decide) body28 (image_Image_table_s _ _ _ _ h) rfl ?_
  rintro _ H6 ⟨y7, rfl, h⟩
  refine call_dst rfl (by decide) body29 (paged_Paged_int_All_s _ _ _ h) rfl ?_
  rintro y9 H8 ⟨_, rfl, h⟩
  refine GoOps.nil ?_
  refine Go.block ?_
  refine go_range1 (g := (0, g)) (c1 := .ret) h rfl hd rfl hM hB hA trivial ?_ ?_ ?_ <;> clear h
  · rintro _ q11 H12 y13 ⟨x14, x15, rfl, h⟩
    refine ⟨rfl, fun lp Bx r hr => ?_⟩
    clear hM hB hA
    intro D M hM hB hA
    refine Go.seq ?_
    refine Go.region rfl ?_
    refine GoOps.q (v := .int .i64 x14) rfl rfl (by decide) (q_assign rfl) ?_
    refine GoOps.nil ?_
    refine Go.region rfl ?_
    refine GoOps.q (v := .int .i64 x15) rfl rfl (by decide) (q_assign rfl) ?_
    refine GoOps.nil ?_
    refine go_begin (g := q11) hr hB hA fun M hB hA => ?_
    have hM : Mk (some lp) D M := trivial
    refine Go.block ?_
    refine Go.seq ?_
    refine Go.region rfl ?_
    obtain ⟨x16, hx17, h⟩ := h
    refine GoOps.q (v := .pointer x16) rfl rfl (by decide) (q_load scalar24 rfl hx17) ?_
    obtain ⟨a18, ha19, h⟩ := h
    refine GoOps.q (v := .pointer (some a18)) rfl rfl (by decide) (q_nilCheck (ptn rfl ha19)) ?_
    refine GoOps.q (v := .pointer (some (a18.add 1))) rfl rfl (by decide) (q_fieldAddr foff51_1 rfl) ?_
    obtain ⟨x20, hx21, h⟩ := h
    refine GoOps.q (v := .pointer x20) rfl rfl (by decide) (q_load scalar48 rfl hx21) ?_
    refine GoOps.q (v := .int .i64 x14) rfl rfl (by decide) (q_move rfl) ?_
    refine call_dst rfl (by decide) body32 (paged_Paged_int_Get_s _ _ _ _ h) rfl ?_
    rintro _ H22 ⟨y23, y24, rfl, h⟩
    refine GoOps.q (v := .tuple #[.int .i64 y23, .bool y24]) rfl rfl (by decide) (q_move rfl) ?_
    refine GoOps.q (v := .int .i64 y23) rfl rfl (by decide) (q_extract rfl rfl) ?_
    refine GoOps.q (v := .bool y24) rfl rfl (by decide) (q_extract rfl rfl) ?_
    refine GoOps.q (v := .int .i64 y23) rfl rfl (by decide) (q_assign rfl) ?_
    refine GoOps.q (v := .bool y24) rfl rfl (by decide) (q_assign rfl) ?_
    refine GoOps.nil ?_
    refine Go.seq ?_
    refine Go.region rfl ?_
    refine GoOps.q (v := .int .i64 x15) rfl rfl (by decide) (q_move rfl) ?_
    refine GoOps.q (v := .bool (decide (0 < x15))) rfl rfl (by decide) (q_gtr rfl rfl) ?_
    refine GoOps.q (v := .bool (decide (0 < x15))) rfl rfl (by decide) (q_move rfl) ?_
    refine join_opsM (TT := fun q : Nat × γ => Tk q.1 q.2) (M := M) 6 (fun s26 => s26.2) (fun ρ (s26 : Bool × (Nat × γ)) => ρ 2 = .pointer (some a1) ∧ ρ 3 = .int .i64 x14 ∧ ρ 5 = .int .i64 y23 ∧ ρ 29 = .bool s26.1) h ?_ ?_ <;> clear h
    · intro s26 H28 ρ h hE
      obtain ⟨e29_2, e29_3, e29_5, e29_29⟩ := hE
      refine GoOps.q (v := .bool s26.1) rfl rfl (by decide) (q_move e29_29) ?_
      refine join_opsM (TT := fun q : Nat × γ => Tk q.1 q.2) (M := M) 10 (fun s31 => s31.2) (fun ρ (s31 : Bool × (Nat × γ)) => ρ 40 = .bool s31.1) h ?_ ?_ <;> clear h
      · intro s31 H33 ρ h hE
        have e34_40 := hE
        refine GoOps.nil ?_
        rcases bor s31.1 with hc35 | hc35
        · have h := h.1 hc35
          refine Go.condT (btT e34_40 hc35) ?_
          exact Go.retM (g := s31.2) hM hB hA ⟨1, ⟨0, rfl, rfl⟩, h⟩
        · have h := h.2 hc35
          refine Go.condF (btF e34_40 hc35) ?_
          refine Go.skip ?_
          refine Go.inBlock ?_
          exact Go.fallM (g := s31.2) hM hB hA ⟨0, rfl, h⟩
      · intro j32 hj32 h
        rcases bor s26.1 with hc30 | hc30
        · have h := h.1 hc30
          refine no_dst (want_no rfl rfl rfl hc30) rfl (by decide) ?_
          refine no_dst (want_no rfl rfl rfl hc30) rfl (by decide) ?_
          refine no_dst (want_no rfl rfl rfl hc30) rfl (by decide) ?_
          refine no_dst (want_undef rfl rfl rfl) rfl (by decide) ?_
          refine no_dst (want_undef rfl rfl rfl) rfl (by decide) ?_
          refine no_dst (want_undef rfl rfl rfl) rfl (by decide) ?_
          refine no_dst (want_undef rfl rfl rfl) rfl (by decide) ?_
          refine no_dst (want_undef rfl rfl rfl) rfl (by decide) ?_
          refine no_dst (want_no rfl rfl rfl hc30) rfl (by decide) ?_
          refine GoOps.q (v := .bool true) rfl rfl (by decide) (q_pickT (btT rfl hc30) rfl) ?_
          exact hj32 (true, s26.2) _ _ h (by exact rfl)
        · have h := h.2 hc30
          refine GoOps.q (v := .int .i64 y23) (want_yes rfl rfl rfl hc30) rfl (by decide) (q_move e29_5) ?_
          refine GoOps.q (v := .bool (decide (0 < y23))) (want_yes rfl rfl rfl hc30) rfl (by decide) (q_gtr rfl rfl) ?_
          refine GoOps.q (v := .bool (decide (0 < y23))) (want_yes rfl rfl rfl hc30) rfl (by decide) (q_move rfl) ?_
          refine join_opsM (TT := fun q : Nat × γ => Tk q.1 q.2) (M := M) 6 (fun s37 => s37.2) (fun ρ (s37 : Bool × (Nat × γ)) => ρ 30 = .bool s26.1 ∧ ρ 39 = .bool s37.1) h ?_ ?_ <;> clear h
          · intro s37 H39 ρ h hE
            obtain ⟨e40_30, e40_39⟩ := hE
            refine GoOps.q (v := .bool s37.1) rfl rfl (by decide) (q_pickF (btF e40_30 hc30) e40_39) ?_
            exact hj32 (s37.1, s37.2) _ _ h (by exact rfl)
          · intro j38 hj38 h
            rcases bor (decide (0 < y23)) with hc36 | hc36
            · have h := h.1 hc36
              obtain ⟨x41, hx42, h⟩ := h
              refine GoOps.q (v := x41) (want_yes rfl rfl rfl hc36) rfl (by decide) (q_load scalar59 e29_2 hx42) ?_
              refine GoOps.q (v := .int .i64 x14) (want_yes rfl rfl rfl hc36) rfl (by decide) (q_move e29_3) ?_
              refine GoOps.q (v := .int .i64 y23) (want_yes rfl rfl rfl hc36) rfl (by decide) (q_move e29_5) ?_
              obtain ⟨he45, h⟩ := h
              refine op_dst (want_yes rfl rfl rfl hc36) rfl (by decide) (do_yieldP (q := s26.2) hy hA (Eq.trans (Eq.trans rfl he45) hyv.symm) rfl h fun q43 H44 h => ?_) 
              refine GoOps.q (v := .bool (!(q43.1 == 0))) (want_yes rfl rfl rfl hc36) rfl (by decide) (q_not rfl) ?_
              refine GoOps.q (v := .bool (!(q43.1 == 0))) (want_yes rfl rfl rfl hc30) rfl (by decide) (q_pickT (btT rfl hc36) rfl) ?_
              exact hj38 (!(q43.1 == 0), q43) _ _ h (by exact ⟨rfl, rfl⟩)
            · have h := h.2 hc36
              refine no_dst (want_no rfl rfl rfl hc36) rfl (by decide) ?_
              refine no_dst (want_no rfl rfl rfl hc36) rfl (by decide) ?_
              refine no_dst (want_no rfl rfl rfl hc36) rfl (by decide) ?_
              refine no_dst (want_no rfl rfl rfl hc36) rfl (by decide) ?_
              refine no_dst (want_no rfl rfl rfl hc36) rfl (by decide) ?_
              refine GoOps.q (v := .bool false) (want_yes rfl rfl rfl hc30) rfl (by decide) (q_pickF (btF rfl hc36) rfl) ?_
              exact hj38 (false, s26.2) _ _ h (by exact ⟨rfl, rfl⟩)
    · intro j27 hj27 h
      rcases bor (decide (0 < x15)) with hc25 | hc25
      · have h := h.1 hc25
        obtain ⟨x46, hx47, h⟩ := h
        refine GoOps.q (v := x46) (want_yes rfl rfl rfl hc25) rfl (by decide) (q_load scalar59 rfl hx47) ?_
        refine GoOps.q (v := .int .i64 x14) (want_yes rfl rfl rfl hc25) rfl (by decide) (q_move rfl) ?_
        refine GoOps.q (v := .int .i64 x15) (want_yes rfl rfl rfl hc25) rfl (by decide) (q_move rfl) ?_
        obtain ⟨he50, h⟩ := h
        refine op_dst (want_yes rfl rfl rfl hc25) rfl (by decide) (do_yieldP (q := q11) hy hA (Eq.trans (Eq.trans rfl he50) hyv.symm) rfl h fun q48 H49 h => ?_) 
        refine GoOps.q (v := .bool (!(q48.1 == 0))) (want_yes rfl rfl rfl hc25) rfl (by decide) (q_not rfl) ?_
        refine GoOps.q (v := .bool (!(q48.1 == 0))) rfl rfl (by decide) (q_pickT (btT rfl hc25) rfl) ?_
        exact hj27 (!(q48.1 == 0), q48) _ _ h (by exact ⟨rfl, rfl, rfl, rfl⟩)
      · have h := h.2 hc25
        refine no_dst (want_no rfl rfl rfl hc25) rfl (by decide) ?_
        refine no_dst (want_no rfl rfl rfl hc25) rfl (by decide) ?_
        refine no_dst (want_no rfl rfl rfl hc25) rfl (by decide) ?_
        refine no_dst (want_no rfl rfl rfl hc25) rfl (by decide) ?_
        refine no_dst (want_no rfl rfl rfl hc25) rfl (by decide) ?_
        refine GoOps.q (v := .bool false) rfl rfl (by decide) (q_pickF (btF rfl hc25) rfl) ?_
        exact hj27 (false, q11) _ _ h (by exact ⟨rfl, rfl, rfl, rfl⟩)
  · intro q52 H53 h
    intro D M hM hB hA
    refine Go.inBlock ?_
    exact Go.fallM (g := q52) hM hB hA ⟨.inr rfl, _, (resOk0 Try.results39), h⟩
  · intro q52 H53 h
    intro D M hM hB hA
    exact Go.retM (g := q52) hM hB hA ⟨.inl rfl, _, (resOk0 Try.results39), h⟩

/-- (*keelson.image.Image).Refs -/
def image_Image_Refs (p0 : Option Addr) (H : PH) (Q : Value → PH → Prop) : Prop :=
  mNew H (row [.pointer p0] 24) fun a1 H2 =>
  Q (.func (.func 39) #[] #[.pointer (some a1)]) H2

set_option maxRecDepth 20000 in
set_option maxHeartbeats 1000000 in
theorem image_Image_Refs_s (p0 : Option Addr) (H : PH) (Q : Value → PH → Prop) (h : image_Image_Refs p0 H Q) :
    CallsH Try.prog 33 #[.pointer p0] H (fun v H' => ∃ (r0 : Value), v = r0 ∧ Q r0 H') := by
  unfold image_Image_Refs at h
  refine callsH_of_go Try.func33 rfl Try.ntmps33 (Nat.le_of_ble_eq_true rfl) ?_
  refine Go.seq ?_
  refine Go.region rfl ?_
  refine op_dst rfl rfl (by decide) (do_newBox (cs := [.pointer p0]) rfl rfl fun a1 H2 hb3 => ?_) 
  have h := h a1 H2 hb3
  refine GoOps.q (v := .nilFunc) rfl rfl (by decide) (q_assign rfl) ?_
  refine GoOps.nil ?_
  refine Go.seq ?_
  refine Go.region rfl ?_
  refine GoOps.q (v := (.func (.func 39) #[] #[.pointer (some a1)])) rfl rfl (by decide) (q_makeFunc rfl rfl) ?_
  refine GoOps.q (v := (.func (.func 39) #[] #[.pointer (some a1)])) rfl rfl (by decide) (q_assign rfl) ?_
  refine GoOps.nil ?_
  exact Go.ret ⟨.inl rfl, _, _, DOk.nil, (resOk1 Try.results33 rfl), ⟨_, rfl, h⟩⟩

/-- keelson.keelsonlaw16.refs -/
def keelsonlaw16_refs (p0 : Option Addr) (p1 : Int) (H : PH) (Q : Sl → PH → Prop) : Prop :=
  mNew H (row [.int .i64 p1] 3) fun a1 H2 =>
  image_Image_Refs p0 H2 fun y5 H4 =>
  mBoth (IsFn y5) <|
  mIf (fisNil y5)
  (Q Sl.nil H4)
  (mNew H4 (row [.slice none 0 0] 39) fun a8 H9 =>
  mJoin (fun (s11 : Unit) (H13 : PH) =>
  mLd Sl.v H13 a8 fun x15 =>
  Q x15 H13)
  fun j12 =>
  IterH Try.prog y5 (fun (vs17 : List Value) (q18 : Unit) (H19 : PH) (y20 : Nat → Unit → PH → Prop) =>
  ∃ (x21 : Int) (x22 : Int), vs17 = [.int .i64 x21, .int .i64 x22] ∧
  mLd Sl.v H19 a8 fun x23 =>
  mLd (.int .i64) H19 a1 fun x25 =>
  mIf (decide (x25 ≤ (x23.len : Int)))
  (y20 1 () H19)
  (mLd Sl.v H19 a8 fun x28 =>
  mNewS H19 (row [.int .i64 x21, .int .i64 x22] 42) 1 fun r30 H31 =>
  mApp H31 42 2 16 [.int .i64 0, .int .i64 0] x28 r30 fun r33 H34 =>
  mSt H34 a8 ([Sl.v r33]) fun H35 =>
  y20 0 () H35)) () H9 fun j37 q38 H39 =>
  mIf (j37 == 1)
  (j12 () H39)
  (j12 () H39))

set_option maxRecDepth 20000 in
set_option maxHeartbeats 1000000 in
theorem keelsonlaw16_refs_s (p0 : Option Addr) (p1 : Int) (H : PH) (Q : Sl → PH → Prop) (h : keelsonlaw16_refs p0 p1 H Q) :
    CallsH Try.prog 18 #[.pointer p0, .int .i64 p1] H (fun v H' => ∃ (r0 : Sl), v = Sl.v r0 ∧ Q r0 H') := by
  unfold keelsonlaw16_refs at h
  refine callsH_of_goM Try.func18 rfl Try.ntmps18 (Nat.le_of_ble_eq_true rfl) ?_
  intro D M hM hB hA
  refine Go.seq ?_
  refine Go.region rfl ?_
  refine op_dst rfl rfl (by decide) (do_newBox (cs := [.int .i64 p1]) rfl rfl fun a1 H2 hb3 => ?_) 
  have h := h a1 H2 hb3
  refine GoOps.q (v := Sl.v Sl.nil) rfl rfl (by decide) (q_assign rfl) ?_
  refine GoOps.nil ?_
  refine Go.seq ?_
  refine Go.region rfl ?_
  refine GoOps.q (v := .pointer p0) rfl rfl (by decide) (q_move rfl) ?_
  refine call_dst rfl (by decide) body33 (image_Image_Refs_s _ _ _ h) rfl ?_
  rintro y5 H4 ⟨_, rfl, h⟩
  refine GoOps.q (v := y5) rfl rfl (by decide) (q_assign rfl) ?_
  refine GoOps.nil ?_
  refine Go.seq ?_
  refine Go.seq ?_
  refine Go.region rfl ?_
  refine GoOps.q (v := y5) rfl rfl (by decide) (q_move rfl) ?_
  obtain ⟨hf6, h⟩ := h
  refine GoOps.q (v := .bool (fisNil y5)) rfl rfl (by decide) (q_eqlFv Try.underlying55 rfl rfl hf6) ?_
  refine GoOps.nil ?_
  rcases bor (fisNil y5) with hc7 | hc7
  · have h := h.1 hc7
    refine Go.condT (btT rfl hc7) ?_
    refine Go.seq ?_
    refine Go.region rfl ?_
    refine GoOps.q (v := Sl.v Sl.nil) rfl rfl (by decide) (q_assign rfl) ?_
    refine GoOps.nil ?_
    exact Go.retM (g := ()) hM hB hA ⟨.inl rfl, _, (resOk1 Try.results18 rfl), ⟨_, rfl, h⟩⟩
  · have h := h.2 hc7
    refine Go.condF (btF rfl hc7) ?_
    refine Go.skip ?_
    refine Go.seq ?_
    refine Go.region rfl ?_
    refine op_dst rfl rfl (by decide) (do_new zero39 rfl fun a8 H9 hb10 => ?_) 
    have h := h a8 H9 hb10
    refine GoOps.nil ?_
    refine Go.seq ?_
    refine Go.seq ?_
    refine Go.region rfl ?_
    refine GoOps.q (v := y5) rfl rfl (by decide) (q_move rfl) ?_
    refine GoOps.nil ?_
    refine join_goM 1 (fun _ => ()) (fun ρ (s11 : Unit) => ρ 6 = .pointer (some a8)) hB h ?_ ?_ <;> clear h
    · intro s11 H13 ρ h hE
      have e14_6 := hE
      intro D M hM hB hA
      refine Go.seq ?_
      refine Go.region rfl ?_
      obtain ⟨x15, hx16, h⟩ := h
      refine GoOps.q (v := Sl.v x15) rfl rfl (by decide) (q_load scalar39 e14_6 hx16) ?_
      refine GoOps.q (v := Sl.v x15) rfl rfl (by decide) (q_assign rfl) ?_
      refine GoOps.nil ?_
      exact Go.retM (g := ()) hM hB hA ⟨.inl rfl, _, (resOk1 Try.results18 rfl), ⟨_, rfl, h⟩⟩
    · intro j12 hj12 h
      refine Go.block ?_
      refine go_range1 (g := ()) (c1 := .exit 0) h rfl (fun _ _ _ h => h) rfl hM hB hA trivial ?_ ?_ ?_ <;> clear h
      · rintro _ q18 H19 y20 ⟨x21, x22, rfl, h⟩
        refine ⟨rfl, fun lp Bx r hr => ?_⟩
        clear hM hB hA
        intro D M hM hB hA
        refine Go.seq ?_
        refine Go.region rfl ?_
        refine GoOps.q (v := .int .i64 x21) rfl rfl (by decide) (q_assign rfl) ?_
        refine GoOps.nil ?_
        refine Go.region rfl ?_
        refine GoOps.q (v := .int .i64 x22) rfl rfl (by decide) (q_assign rfl) ?_
        refine GoOps.nil ?_
        refine go_begin (g := ()) hr hB hA fun M hB hA => ?_
        have hM : Mk (some lp) D M := trivial
        refine Go.block ?_
        refine Go.seq ?_
        refine Go.seq ?_
        refine Go.region rfl ?_
        obtain ⟨x23, hx24, h⟩ := h
        refine GoOps.q (v := Sl.v x23) rfl rfl (by decide) (q_load scalar39 rfl hx24) ?_
        refine GoOps.q (v := .int .i64 (x23.len : Int)) rfl rfl (by decide) (q_len Try.underlying39 rfl (ls1 rfl)) ?_
        obtain ⟨x25, hx26, h⟩ := h
        refine GoOps.q (v := .int .i64 x25) rfl rfl (by decide) (q_load scalar3 rfl hx26) ?_
        refine GoOps.q (v := .bool (decide (x25 ≤ (x23.len : Int)))) rfl rfl (by decide) (q_geq rfl rfl) ?_
        refine GoOps.nil ?_
        rcases bor (decide (x25 ≤ (x23.len : Int))) with hc27 | hc27
        · have h := h.1 hc27
          refine Go.condT (btT rfl hc27) ?_
          exact Go.exitM (g := ()) rfl hM hB hA ⟨1, ⟨0, rfl, rfl⟩, h⟩
        · have h := h.2 hc27
          refine Go.condF (btF rfl hc27) ?_
          refine Go.skip ?_
          refine Go.region rfl ?_
          obtain ⟨x28, hx29, h⟩ := h
          refine GoOps.q (v := Sl.v x28) rfl rfl (by decide) (q_load scalar39 rfl hx29) ?_
          refine GoOps.q (v := .int .i64 x21) rfl rfl (by decide) (q_move rfl) ?_
          refine GoOps.q (v := .int .i64 x22) rfl rfl (by decide) (q_move rfl) ?_
          refine GoOps.q (v := .agg ([.int .i64 x21, .int .i64 x22] : List Value).toArray) rfl rfl (by decide) (q_build (ps := [(0, .int .i64 x21), (1, .int .i64 x22)]) (cs := [.int .i64 x21, .int .i64 x22]) places42 zero42 rfl rfl rfl) ?_
          refine op_dst rfl rfl (by decide) (do_bs (ps := [(0, .agg ([.int .i64 x21, .int .i64 x22] : List Value).toArray)]) (zs := [.int .i64 0, .int .i64 0]) (cs := [.int .i64 x21, .int .i64 x22]) slice39 zero42 rfl rfl (by decide) (by decide) rfl (fillS_cat (tot := 2) (css := [[.int .i64 x21, .int .i64 x22]]) (.cons rfl rfl rfl (.nil rfl)) rfl) fun r30 H31 hb32 => ?_) 
          have h := h r30 H31 hb32
          refine op_dst rfl rfl (by decide) (do_append (zs := [.int .i64 0, .int .i64 0]) slice39 bytes42 (by decide) zero42 rfl rfl (by decide) rfl rfl Try.underlying39 rfl h fun r33 H34 h => ?_) 
          obtain ⟨q36b, q36o, q36c, q36e, hq36a, hq36b, hq36l, hq36v, h⟩ := h
          refine op_none rfl rfl (do_store (vs := [Sl.v r33]) size39 (pta rfl hq36a) rfl rfl rfl hq36v hq36b hq36l ?_) 
          refine GoOps.nil ?_
          refine Go.inBlock ?_
          exact Go.fallM (g := ()) hM hB hA ⟨0, rfl, h⟩
      · intro q38 H39 h
        intro D M hM hB hA
        refine Go.inBlock ?_
        exact hj12 () _ _ h (by exact rfl) _ _ hM hB hA
      · intro q38 H39 h
        intro D M hM hB hA
        refine Go.exit rfl ?_
        exact hj12 () _ _ h (by exact rfl) _ _ hM hB hA

/-- keelson.keelsonlaw16.awake -/
def keelsonlaw16_awake (H : PH) (Q : Bool → PH → Prop) : Prop :=
  image_New 20 H fun y2 H1 =>
  mJoin (fun (s4 : Bool) (H6 : PH) =>
  mIf s4
  (Q false H6)
  (image_Image_Write y2 3 50 H6 fun y10 y11 H9 =>
  image_Image_Write y2 3 60 H9 fun y13 y14 H12 =>
  image_Image_Ref y2 3 H12 fun y16 y17 H15 =>
  image_Image_Look y2 3 H15 fun y19 y20 H18 =>
  image_Image_Commit y2 H18 fun y22 H21 =>
  image_Image_Ref y2 3 H21 fun y24 y25 H23 =>
  image_Image_Put y2 3 70 H23 fun y27 y28 H26 =>
  mJoin (fun (s30 : Bool) (H32 : PH) =>
  mJoin (fun (s35 : Bool) (H37 : PH) =>
  mJoin (fun (s40 : Bool) (H42 : PH) =>
  mJoin (fun (s45 : Bool) (H47 : PH) =>
  mJoin (fun (s50 : Bool) (H52 : PH) =>
  mJoin (fun (s55 : Bool) (H57 : PH) =>
  mJoin (fun (s60 : Bool) (H62 : PH) =>
  mJoin (fun (s65 : Bool) (H67 : PH) =>
  mJoin (fun (s70 : Bool) (H72 : PH) =>
  mJoin (fun (s75 : Bool) (H77 : PH) =>
  mJoin (fun (s80 : Bool) (H82 : PH) =>
  mJoin (fun (s85 : Bool) (H87 : PH) =>
  mJoin (fun (s90 : Bool) (H92 : PH) =>
  mJoin (fun (s95 : Bool) (H97 : PH) =>
  Q s95 H97)
  fun j96 =>
  mIf s90
  (keelsonlaw16_refs none 2 H92 fun y100 H99 =>
  j96 ((y100.len : Int) == 0) H99)
  (j96 false H92))
  fun j91 =>
  mIf s85
  (image_Image_Blocks none H87 fun y102 H101 =>
  j91 (y102 == 0) H101)
  (j91 false H87))
  fun j86 =>
  mIf s80
  (keelsonlaw16_dirty y2 false 9 H82 fun y104 H103 =>
  mNewS H103 (row [.int .i64 0] 3) 1 fun r105 H106 =>
  keelsonalike_Ints y104 r105 H106 fun y109 H108 =>
  j86 y109 H108)
  (j86 false H82))
  fun j81 =>
  mIf s75
  (image_Image_Blocks y2 H77 fun y111 H110 =>
  j81 (y111 == 20) H110)
  (j81 false H77))
  fun j76 =>
  mIf s70
  (image_Image_Pending y2 H72 fun y113 H112 =>
  j76 (y113 == 0) H112)
  (j76 false H72))
  fun j71 =>
  mIf s65
  (j71 y28 H67)
  (j71 false H67))
  fun j66 =>
  mIf s60
  (j66 (y27 == 60) H62)
  (j66 false H62))
  fun j61 =>
  mIf s55
  (j61 (y24 == 60) H57)
  (j61 false H57))
  fun j56 =>
  mIf s50
  (j56 ((y22.len : Int) == 0) H52)
  (j56 false H52))
  fun j51 =>
  mIf s45
  (j51 (y19 == 60) H47)
  (j51 false H47))
  fun j46 =>
  mIf s40
  (j46 (y16 == 0) H42)
  (j46 false H42))
  fun j41 =>
  mIf s35
  (j41 y14 H37)
  (j41 false H37))
  fun j36 =>
  mIf s30
  (j36 (y13 == 50) H32)
  (j36 false H32))
  fun j31 =>
  mIf (y10 == 0)
  (j31 y11 H26)
  (j31 false H26)))
  fun j5 =>
  mIf (Option.isNone y2)
  (j5 true H1)
  (image_New 65 H1 fun y115 H114 =>
  j5 (!(Option.isNone y115)) H114)

set_option maxRecDepth 20000 in
set_option maxHeartbeats 1000000 in
theorem keelsonlaw16_awake_s (H : PH) (Q : Bool → PH → Prop) (h : keelsonlaw16_awake H Q) :
    CallsH Try.prog 6 #[] H (fun v H' => ∃ (r0 : Bool), v = .bool r0 ∧ Q r0 H') := by
  unfold keelsonlaw16_awake at h
  refine callsH_of_go Try.func6 rfl Try.ntmps6 (Nat.le_of_ble_eq_true rfl) ?_
  refine Go.seq ?_
  refine Go.region rfl ?_
  refine GoOps.q (v := .bool false) rfl rfl (by decide) (q_assign rfl) ?_
  refine GoOps.nil ?_
  refine Go.seq ?_
  refine Go.region rfl ?_
  refine call_dst rfl (by decide) body7 (image_New_s _ _ _ h) rfl ?_
  rintro _ H1 ⟨y2, rfl, h⟩
  refine GoOps.q (v := .pointer y2) rfl rfl (by decide) (q_assign rfl) ?_
  refine GoOps.nil ?_
  refine Go.seq ?_
  refine Go.seq ?_
  refine Go.region rfl ?_
  refine GoOps.q (v := .pointer y2) rfl rfl (by decide) (q_move rfl) ?_
  refine GoOps.q (v := .bool (Option.isNone y2)) rfl rfl (by decide) (q_eqlPn Try.underlying24 rfl rfl) ?_
  refine GoOps.q (v := .bool (Option.isNone y2)) rfl rfl (by decide) (q_move rfl) ?_
  refine join_ops 3 (fun ρ (s4 : Bool) => ρ 1 = .pointer y2 ∧ ρ 22 = .bool s4) h ?_ ?_ <;> clear h
  · intro s4 H6 ρ h hE
    obtain ⟨e7_1, e7_22⟩ := hE
    refine GoOps.nil ?_
    rcases bor s4 with hc8 | hc8
    · have h := h.1 hc8
      refine Go.condT (btT e7_22 hc8) ?_
      refine Go.seq ?_
      refine Go.region rfl ?_
      refine GoOps.q (v := .bool false) rfl rfl (by decide) (q_assign rfl) ?_
      refine GoOps.nil ?_
      exact Go.ret ⟨.inl rfl, _, _, DOk.nil, (resOk1 Try.results6 rfl), ⟨_, rfl, h⟩⟩
    · have h := h.2 hc8
      refine Go.condF (btF e7_22 hc8) ?_
      refine Go.skip ?_
      refine Go.seq ?_
      refine Go.region rfl ?_
      refine GoOps.q (v := .pointer y2) rfl rfl (by decide) (q_move e7_1) ?_
      refine call_dst rfl (by decide) body9 (image_Image_Write_s _ _ _ _ _ h) rfl ?_
      rintro _ H9 ⟨y10, y11, rfl, h⟩
      refine GoOps.q (v := .tuple #[.int .i64 y10, .bool y11]) rfl rfl (by decide) (q_move rfl) ?_
      refine GoOps.q (v := .int .i64 y10) rfl rfl (by decide) (q_extract rfl rfl) ?_
      refine GoOps.q (v := .bool y11) rfl rfl (by decide) (q_extract rfl rfl) ?_
      refine GoOps.q (v := .int .i64 y10) rfl rfl (by decide) (q_assign rfl) ?_
      refine GoOps.q (v := .bool y11) rfl rfl (by decide) (q_assign rfl) ?_
      refine GoOps.nil ?_
      refine Go.seq ?_
      refine Go.region rfl ?_
      refine GoOps.q (v := .pointer y2) rfl rfl (by decide) (q_move e7_1) ?_
      refine call_dst rfl (by decide) body9 (image_Image_Write_s _ _ _ _ _ h) rfl ?_
      rintro _ H12 ⟨y13, y14, rfl, h⟩
      refine GoOps.q (v := .tuple #[.int .i64 y13, .bool y14]) rfl rfl (by decide) (q_move rfl) ?_
      refine GoOps.q (v := .int .i64 y13) rfl rfl (by decide) (q_extract rfl rfl) ?_
      refine GoOps.q (v := .bool y14) rfl rfl (by decide) (q_extract rfl rfl) ?_
      refine GoOps.q (v := .int .i64 y13) rfl rfl (by decide) (q_assign rfl) ?_
      refine GoOps.q (v := .bool y14) rfl rfl (by decide) (q_assign rfl) ?_
      refine GoOps.nil ?_
      refine Go.seq ?_
      refine Go.region rfl ?_
      refine GoOps.q (v := .pointer y2) rfl rfl (by decide) (q_move e7_1) ?_
      refine call_dst rfl (by decide) body15 (image_Image_Ref_s _ _ _ _ h) rfl ?_
      rintro _ H15 ⟨y16, y17, rfl, h⟩
      refine GoOps.q (v := .tuple #[.int .i64 y16, .bool y17]) rfl rfl (by decide) (q_move rfl) ?_
      refine GoOps.q (v := .int .i64 y16) rfl rfl (by decide) (q_extract rfl rfl) ?_
      refine GoOps.q (v := .bool y17) rfl rfl (by decide) (q_extract rfl rfl) ?_
      refine GoOps.q (v := .int .i64 y16) rfl rfl (by decide) (q_assign rfl) ?_
      refine GoOps.q (v := .bool y17) rfl rfl (by decide) (q_assign rfl) ?_
      refine GoOps.nil ?_
      refine Go.seq ?_
      refine Go.region rfl ?_
      refine GoOps.q (v := .pointer y2) rfl rfl (by decide) (q_move e7_1) ?_
      refine call_dst rfl (by decide) body16 (image_Image_Look_s _ _ _ _ h) rfl ?_
      rintro _ H18 ⟨y19, y20, rfl, h⟩
      refine GoOps.q (v := .tuple #[.int .i64 y19, .bool y20]) rfl rfl (by decide) (q_move rfl) ?_
      refine GoOps.q (v := .int .i64 y19) rfl rfl (by decide) (q_extract rfl rfl) ?_
      refine GoOps.q (v := .bool y20) rfl rfl (by decide) (q_extract rfl rfl) ?_
      refine GoOps.q (v := .int .i64 y19) rfl rfl (by decide) (q_assign rfl) ?_
      refine GoOps.q (v := .bool y20) rfl rfl (by decide) (q_assign rfl) ?_
      refine GoOps.nil ?_
      refine Go.seq ?_
      refine Go.region rfl ?_
      refine GoOps.q (v := .pointer y2) rfl rfl (by decide) (q_move e7_1) ?_
      refine call_dst rfl (by decide) body11 (image_Image_Commit_s _ _ _ h) rfl ?_
      rintro _ H21 ⟨y22, rfl, h⟩
      refine GoOps.q (v := Sl.v y22) rfl rfl (by decide) (q_assign rfl) ?_
      refine GoOps.nil ?_
      refine Go.seq ?_
      refine Go.region rfl ?_
      refine GoOps.q (v := .pointer y2) rfl rfl (by decide) (q_move e7_1) ?_
      refine call_dst rfl (by decide) body15 (image_Image_Ref_s _ _ _ _ h) rfl ?_
      rintro _ H23 ⟨y24, y25, rfl, h⟩
      refine GoOps.q (v := .tuple #[.int .i64 y24, .bool y25]) rfl rfl (by decide) (q_move rfl) ?_
      refine GoOps.q (v := .int .i64 y24) rfl rfl (by decide) (q_extract rfl rfl) ?_
      refine GoOps.q (v := .bool y25) rfl rfl (by decide) (q_extract rfl rfl) ?_
      refine GoOps.q (v := .int .i64 y24) rfl rfl (by decide) (q_assign rfl) ?_
      refine GoOps.q (v := .bool y25) rfl rfl (by decide) (q_assign rfl) ?_
      refine GoOps.nil ?_
      refine Go.seq ?_
      refine Go.region rfl ?_
      refine GoOps.q (v := .pointer y2) rfl rfl (by decide) (q_move e7_1) ?_
      refine call_dst rfl (by decide) body13 (image_Image_Put_s _ _ _ _ _ h) rfl ?_
      rintro _ H26 ⟨y27, y28, rfl, h⟩
      refine GoOps.q (v := .tuple #[.int .i64 y27, .bool y28]) rfl rfl (by decide) (q_move rfl) ?_
      refine GoOps.q (v := .int .i64 y27) rfl rfl (by decide) (q_extract rfl rfl) ?_
      refine GoOps.q (v := .bool y28) rfl rfl (by decide) (q_extract rfl rfl) ?_
      refine GoOps.q (v := .int .i64 y27) rfl rfl (by decide) (q_assign rfl) ?_
      refine GoOps.q (v := .bool y28) rfl rfl (by decide) (q_assign rfl) ?_
      refine GoOps.nil ?_
      refine Go.seq ?_
      refine Go.region rfl ?_
      refine GoOps.q (v := .pointer none) rfl rfl (by decide) (q_assign rfl) ?_
      refine GoOps.nil ?_
      refine Go.seq ?_
      refine Go.region rfl ?_
      refine GoOps.q (v := .int .i64 y10) rfl rfl (by decide) (q_move rfl) ?_
      refine GoOps.q (v := .bool (y10 == 0)) rfl rfl (by decide) (q_eql rfl rfl) ?_
      refine GoOps.q (v := .bool (y10 == 0)) rfl rfl (by decide) (q_move rfl) ?_
      refine join_ops 2 (fun ρ (s30 : Bool) => ρ 1 = .pointer y2 ∧ ρ 4 = .int .i64 y13 ∧ ρ 5 = .bool y14 ∧ ρ 6 = .int .i64 y16 ∧ ρ 8 = .int .i64 y19 ∧ ρ 10 = Sl.v y22 ∧ ρ 11 = .int .i64 y24 ∧ ρ 13 = .int .i64 y27 ∧ ρ 14 = .bool y28 ∧ ρ 15 = .pointer none ∧ ρ 59 = .bool s30) h ?_ ?_ <;> clear h
      · intro s30 H32 ρ h hE
        obtain ⟨e33_1, e33_4, e33_5, e33_6, e33_8, e33_10, e33_11, e33_13, e33_14, e33_15, e33_59⟩ := hE
        refine GoOps.q (v := .bool s30) rfl rfl (by decide) (q_move e33_59) ?_
        refine join_ops 3 (fun ρ (s35 : Bool) => ρ 1 = .pointer y2 ∧ ρ 5 = .bool y14 ∧ ρ 6 = .int .i64 y16 ∧ ρ 8 = .int .i64 y19 ∧ ρ 10 = Sl.v y22 ∧ ρ 11 = .int .i64 y24 ∧ ρ 13 = .int .i64 y27 ∧ ρ 14 = .bool y28 ∧ ρ 15 = .pointer none ∧ ρ 63 = .bool s35) h ?_ ?_ <;> clear h
        · intro s35 H37 ρ h hE
          obtain ⟨e38_1, e38_5, e38_6, e38_8, e38_10, e38_11, e38_13, e38_14, e38_15, e38_63⟩ := hE
          refine GoOps.q (v := .bool s35) rfl rfl (by decide) (q_move e38_63) ?_
          refine join_ops 2 (fun ρ (s40 : Bool) => ρ 1 = .pointer y2 ∧ ρ 6 = .int .i64 y16 ∧ ρ 8 = .int .i64 y19 ∧ ρ 10 = Sl.v y22 ∧ ρ 11 = .int .i64 y24 ∧ ρ 13 = .int .i64 y27 ∧ ρ 14 = .bool y28 ∧ ρ 15 = .pointer none ∧ ρ 66 = .bool s40) h ?_ ?_ <;> clear h
          · intro s40 H42 ρ h hE
            obtain ⟨e43_1, e43_6, e43_8, e43_10, e43_11, e43_13, e43_14, e43_15, e43_66⟩ := hE
            refine GoOps.q (v := .bool s40) rfl rfl (by decide) (q_move e43_66) ?_
            refine join_ops 3 (fun ρ (s45 : Bool) => ρ 1 = .pointer y2 ∧ ρ 8 = .int .i64 y19 ∧ ρ 10 = Sl.v y22 ∧ ρ 11 = .int .i64 y24 ∧ ρ 13 = .int .i64 y27 ∧ ρ 14 = .bool y28 ∧ ρ 15 = .pointer none ∧ ρ 70 = .bool s45) h ?_ ?_ <;> clear h
            · intro s45 H47 ρ h hE
              obtain ⟨e48_1, e48_8, e48_10, e48_11, e48_13, e48_14, e48_15, e48_70⟩ := hE
              refine GoOps.q (v := .bool s45) rfl rfl (by decide) (q_move e48_70) ?_
              refine join_ops 3 (fun ρ (s50 : Bool) => ρ 1 = .pointer y2 ∧ ρ 10 = Sl.v y22 ∧ ρ 11 = .int .i64 y24 ∧ ρ 13 = .int .i64 y27 ∧ ρ 14 = .bool y28 ∧ ρ 15 = .pointer none ∧ ρ 74 = .bool s50) h ?_ ?_ <;> clear h
              · intro s50 H52 ρ h hE
                obtain ⟨e53_1, e53_10, e53_11, e53_13, e53_14, e53_15, e53_74⟩ := hE
                refine GoOps.q (v := .bool s50) rfl rfl (by decide) (q_move e53_74) ?_
                refine join_ops 4 (fun ρ (s55 : Bool) => ρ 1 = .pointer y2 ∧ ρ 11 = .int .i64 y24 ∧ ρ 13 = .int .i64 y27 ∧ ρ 14 = .bool y28 ∧ ρ 15 = .pointer none ∧ ρ 79 = .bool s55) h ?_ ?_ <;> clear h
                · intro s55 H57 ρ h hE
                  obtain ⟨e58_1, e58_11, e58_13, e58_14, e58_15, e58_79⟩ := hE
                  refine GoOps.q (v := .bool s55) rfl rfl (by decide) (q_move e58_79) ?_
                  refine join_ops 3 (fun ρ (s60 : Bool) => ρ 1 = .pointer y2 ∧ ρ 13 = .int .i64 y27 ∧ ρ 14 = .bool y28 ∧ ρ 15 = .pointer none ∧ ρ 83 = .bool s60) h ?_ ?_ <;> clear h
                  · intro s60 H62 ρ h hE
                    obtain ⟨e63_1, e63_13, e63_14, e63_15, e63_83⟩ := hE
                    refine GoOps.q (v := .bool s60) rfl rfl (by decide) (q_move e63_83) ?_
                    refine join_ops 3 (fun ρ (s65 : Bool) => ρ 1 = .pointer y2 ∧ ρ 14 = .bool y28 ∧ ρ 15 = .pointer none ∧ ρ 87 = .bool s65) h ?_ ?_ <;> clear h
                    · intro s65 H67 ρ h hE
                      obtain ⟨e68_1, e68_14, e68_15, e68_87⟩ := hE
                      refine GoOps.q (v := .bool s65) rfl rfl (by decide) (q_move e68_87) ?_
                      refine join_ops 2 (fun ρ (s70 : Bool) => ρ 1 = .pointer y2 ∧ ρ 15 = .pointer none ∧ ρ 90 = .bool s70) h ?_ ?_ <;> clear h
                      · intro s70 H72 ρ h hE
                        obtain ⟨e73_1, e73_15, e73_90⟩ := hE
                        refine GoOps.q (v := .bool s70) rfl rfl (by decide) (q_move e73_90) ?_
                        refine join_ops 4 (fun ρ (s75 : Bool) => ρ 1 = .pointer y2 ∧ ρ 15 = .pointer none ∧ ρ 95 = .bool s75) h ?_ ?_ <;> clear h
                        · intro s75 H77 ρ h hE
                          obtain ⟨e78_1, e78_15, e78_95⟩ := hE
                          refine GoOps.q (v := .bool s75) rfl rfl (by decide) (q_move e78_95) ?_
                          refine join_ops 4 (fun ρ (s80 : Bool) => ρ 1 = .pointer y2 ∧ ρ 15 = .pointer none ∧ ρ 100 = .bool s80) h ?_ ?_ <;> clear h
                          · intro s80 H82 ρ h hE
                            obtain ⟨e83_1, e83_15, e83_100⟩ := hE
                            refine GoOps.q (v := .bool s80) rfl rfl (by decide) (q_move e83_100) ?_
                            refine join_ops 5 (fun ρ (s85 : Bool) => ρ 15 = .pointer none ∧ ρ 106 = .bool s85) h ?_ ?_ <;> clear h
                            · intro s85 H87 ρ h hE
                              obtain ⟨e88_15, e88_106⟩ := hE
                              refine GoOps.q (v := .bool s85) rfl rfl (by decide) (q_move e88_106) ?_
                              refine join_ops 4 (fun ρ (s90 : Bool) => ρ 15 = .pointer none ∧ ρ 111 = .bool s90) h ?_ ?_ <;> clear h
                              · intro s90 H92 ρ h hE
                                obtain ⟨e93_15, e93_111⟩ := hE
                                refine GoOps.q (v := .bool s90) rfl rfl (by decide) (q_move e93_111) ?_
                                refine join_ops 5 (fun ρ (s95 : Bool) => ρ 117 = .bool s95) h ?_ ?_ <;> clear h
                                · intro s95 H97 ρ h hE
                                  have e98_117 := hE
                                  refine GoOps.q (v := .bool s95) rfl rfl (by decide) (q_assign e98_117) ?_
                                  refine GoOps.nil ?_
                                  exact Go.ret ⟨.inl rfl, _, _, DOk.nil, (resOk1 Try.results6 rfl), ⟨_, rfl, h⟩⟩
                                · intro j96 hj96 h
                                  rcases bor s90 with hc94 | hc94
                                  · have h := h.1 hc94
                                    refine GoOps.q (v := .pointer none) (want_yes rfl rfl rfl hc94) rfl (by decide) (q_move e93_15) ?_
                                    refine call_dst (want_yes rfl rfl rfl hc94) (by decide) body18 (keelsonlaw16_refs_s _ _ _ _ h) rfl ?_
                                    rintro _ H99 ⟨y100, rfl, h⟩
                                    refine GoOps.q (v := .int .i64 (y100.len : Int)) (want_yes rfl rfl rfl hc94) rfl (by decide) (q_len Try.underlying39 rfl (ls1 rfl)) ?_
                                    refine GoOps.q (v := .bool ((y100.len : Int) == 0)) (want_yes rfl rfl rfl hc94) rfl (by decide) (q_eql rfl rfl) ?_
                                    refine GoOps.q (v := .bool ((y100.len : Int) == 0)) rfl rfl (by decide) (q_pickT (btT rfl hc94) rfl) ?_
                                    exact hj96 ((y100.len : Int) == 0) _ _ h (by exact rfl)
                                  · have h := h.2 hc94
                                    refine no_dst (want_no rfl rfl rfl hc94) rfl (by decide) ?_
                                    refine no_dst (want_no rfl rfl rfl hc94) rfl (by decide) ?_
                                    refine no_dst (want_no rfl rfl rfl hc94) rfl (by decide) ?_
                                    refine no_dst (want_no rfl rfl rfl hc94) rfl (by decide) ?_
                                    refine GoOps.q (v := .bool false) rfl rfl (by decide) (q_pickF (btF rfl hc94) rfl) ?_
                                    exact hj96 false _ _ h (by exact rfl)
                              · intro j91 hj91 h
                                rcases bor s85 with hc89 | hc89
                                · have h := h.1 hc89
                                  refine GoOps.q (v := .pointer none) (want_yes rfl rfl rfl hc89) rfl (by decide) (q_move e88_15) ?_
                                  refine call_dst (want_yes rfl rfl rfl hc89) (by decide) body21 (image_Image_Blocks_s _ _ _ h) rfl ?_
                                  rintro _ H101 ⟨y102, rfl, h⟩
                                  refine GoOps.q (v := .bool (y102 == 0)) (want_yes rfl rfl rfl hc89) rfl (by decide) (q_eql rfl rfl) ?_
                                  refine GoOps.q (v := .bool (y102 == 0)) rfl rfl (by decide) (q_pickT (btT rfl hc89) rfl) ?_
                                  exact hj91 (y102 == 0) _ _ h (by exact ⟨e88_15, rfl⟩)
                                · have h := h.2 hc89
                                  refine no_dst (want_no rfl rfl rfl hc89) rfl (by decide) ?_
                                  refine no_dst (want_no rfl rfl rfl hc89) rfl (by decide) ?_
                                  refine no_dst (want_no rfl rfl rfl hc89) rfl (by decide) ?_
                                  refine GoOps.q (v := .bool false) rfl rfl (by decide) (q_pickF (btF rfl hc89) rfl) ?_
                                  exact hj91 false _ _ h (by exact ⟨e88_15, rfl⟩)
                            · intro j86 hj86 h
                              rcases bor s80 with hc84 | hc84
                              · have h := h.1 hc84
                                refine GoOps.q (v := .pointer y2) (want_yes rfl rfl rfl hc84) rfl (by decide) (q_move e83_1) ?_
                                refine call_dst (want_yes rfl rfl rfl hc84) (by decide) body23 (keelsonlaw16_dirty_s _ _ _ _ _ h) rfl ?_
                                rintro _ H103 ⟨y104, rfl, h⟩
                                refine op_dst (want_yes rfl rfl rfl hc84) rfl (by decide) (do_bs (ps := [(0, .int .i64 0)]) (zs := [.int .i64 0]) (cs := [.int .i64 0]) slice26 zero3 rfl rfl (by decide) (by decide) rfl rfl fun r105 H106 hb107 => ?_) 
                                have h := h r105 H106 hb107
                                refine call_dst (want_yes rfl rfl rfl hc84) (by decide) body22 (keelsonalike_Ints_s _ _ _ _ h) rfl ?_
                                rintro _ H108 ⟨y109, rfl, h⟩
                                refine GoOps.q (v := .bool y109) rfl rfl (by decide) (q_pickT (btT rfl hc84) rfl) ?_
                                exact hj86 y109 _ _ h (by exact ⟨e83_15, rfl⟩)
                              · have h := h.2 hc84
                                refine no_dst (want_no rfl rfl rfl hc84) rfl (by decide) ?_
                                refine no_dst (want_no rfl rfl rfl hc84) rfl (by decide) ?_
                                refine no_dst (want_no rfl rfl rfl hc84) rfl (by decide) ?_
                                refine no_dst (want_no rfl rfl rfl hc84) rfl (by decide) ?_
                                refine GoOps.q (v := .bool false) rfl rfl (by decide) (q_pickF (btF rfl hc84) rfl) ?_
                                exact hj86 false _ _ h (by exact ⟨e83_15, rfl⟩)
                          · intro j81 hj81 h
                            rcases bor s75 with hc79 | hc79
                            · have h := h.1 hc79
                              refine GoOps.q (v := .pointer y2) (want_yes rfl rfl rfl hc79) rfl (by decide) (q_move e78_1) ?_
                              refine call_dst (want_yes rfl rfl rfl hc79) (by decide) body21 (image_Image_Blocks_s _ _ _ h) rfl ?_
                              rintro _ H110 ⟨y111, rfl, h⟩
                              refine GoOps.q (v := .bool (y111 == 20)) (want_yes rfl rfl rfl hc79) rfl (by decide) (q_eql rfl rfl) ?_
                              refine GoOps.q (v := .bool (y111 == 20)) rfl rfl (by decide) (q_pickT (btT rfl hc79) rfl) ?_
                              exact hj81 (y111 == 20) _ _ h (by exact ⟨e78_1, e78_15, rfl⟩)
                            · have h := h.2 hc79
                              refine no_dst (want_no rfl rfl rfl hc79) rfl (by decide) ?_
                              refine no_dst (want_no rfl rfl rfl hc79) rfl (by decide) ?_
                              refine no_dst (want_no rfl rfl rfl hc79) rfl (by decide) ?_
                              refine GoOps.q (v := .bool false) rfl rfl (by decide) (q_pickF (btF rfl hc79) rfl) ?_
                              exact hj81 false _ _ h (by exact ⟨e78_1, e78_15, rfl⟩)
                        · intro j76 hj76 h
                          rcases bor s70 with hc74 | hc74
                          · have h := h.1 hc74
                            refine GoOps.q (v := .pointer y2) (want_yes rfl rfl rfl hc74) rfl (by decide) (q_move e73_1) ?_
                            refine call_dst (want_yes rfl rfl rfl hc74) (by decide) body17 (image_Image_Pending_s _ _ _ h) rfl ?_
                            rintro _ H112 ⟨y113, rfl, h⟩
                            refine GoOps.q (v := .bool (y113 == 0)) (want_yes rfl rfl rfl hc74) rfl (by decide) (q_eql rfl rfl) ?_
                            refine GoOps.q (v := .bool (y113 == 0)) rfl rfl (by decide) (q_pickT (btT rfl hc74) rfl) ?_
                            exact hj76 (y113 == 0) _ _ h (by exact ⟨e73_1, e73_15, rfl⟩)
                          · have h := h.2 hc74
                            refine no_dst (want_no rfl rfl rfl hc74) rfl (by decide) ?_
                            refine no_dst (want_no rfl rfl rfl hc74) rfl (by decide) ?_
                            refine no_dst (want_no rfl rfl rfl hc74) rfl (by decide) ?_
                            refine GoOps.q (v := .bool false) rfl rfl (by decide) (q_pickF (btF rfl hc74) rfl) ?_
                            exact hj76 false _ _ h (by exact ⟨e73_1, e73_15, rfl⟩)
                      · intro j71 hj71 h
                        rcases bor s65 with hc69 | hc69
                        · have h := h.1 hc69
                          refine GoOps.q (v := .bool y28) (want_yes rfl rfl rfl hc69) rfl (by decide) (q_move e68_14) ?_
                          refine GoOps.q (v := .bool y28) rfl rfl (by decide) (q_pickT (btT rfl hc69) rfl) ?_
                          exact hj71 y28 _ _ h (by exact ⟨e68_1, e68_15, rfl⟩)
                        · have h := h.2 hc69
                          refine no_dst (want_no rfl rfl rfl hc69) rfl (by decide) ?_
                          refine GoOps.q (v := .bool false) rfl rfl (by decide) (q_pickF (btF rfl hc69) rfl) ?_
                          exact hj71 false _ _ h (by exact ⟨e68_1, e68_15, rfl⟩)
                    · intro j66 hj66 h
                      rcases bor s60 with hc64 | hc64
                      · have h := h.1 hc64
                        refine GoOps.q (v := .int .i64 y27) (want_yes rfl rfl rfl hc64) rfl (by decide) (q_move e63_13) ?_
                        refine GoOps.q (v := .bool (y27 == 60)) (want_yes rfl rfl rfl hc64) rfl (by decide) (q_eql rfl rfl) ?_
                        refine GoOps.q (v := .bool (y27 == 60)) rfl rfl (by decide) (q_pickT (btT rfl hc64) rfl) ?_
                        exact hj66 (y27 == 60) _ _ h (by exact ⟨e63_1, e63_14, e63_15, rfl⟩)
                      · have h := h.2 hc64
                        refine no_dst (want_no rfl rfl rfl hc64) rfl (by decide) ?_
                        refine no_dst (want_no rfl rfl rfl hc64) rfl (by decide) ?_
                        refine GoOps.q (v := .bool false) rfl rfl (by decide) (q_pickF (btF rfl hc64) rfl) ?_
                        exact hj66 false _ _ h (by exact ⟨e63_1, e63_14, e63_15, rfl⟩)
                  · intro j61 hj61 h
                    rcases bor s55 with hc59 | hc59
                    · have h := h.1 hc59
                      refine GoOps.q (v := .int .i64 y24) (want_yes rfl rfl rfl hc59) rfl (by decide) (q_move e58_11) ?_
                      refine GoOps.q (v := .bool (y24 == 60)) (want_yes rfl rfl rfl hc59) rfl (by decide) (q_eql rfl rfl) ?_
                      refine GoOps.q (v := .bool (y24 == 60)) rfl rfl (by decide) (q_pickT (btT rfl hc59) rfl) ?_
                      exact hj61 (y24 == 60) _ _ h (by exact ⟨e58_1, e58_13, e58_14, e58_15, rfl⟩)
                    · have h := h.2 hc59
                      refine no_dst (want_no rfl rfl rfl hc59) rfl (by decide) ?_
                      refine no_dst (want_no rfl rfl rfl hc59) rfl (by decide) ?_
                      refine GoOps.q (v := .bool false) rfl rfl (by decide) (q_pickF (btF rfl hc59) rfl) ?_
                      exact hj61 false _ _ h (by exact ⟨e58_1, e58_13, e58_14, e58_15, rfl⟩)
                · intro j56 hj56 h
                  rcases bor s50 with hc54 | hc54
                  · have h := h.1 hc54
                    refine GoOps.q (v := Sl.v y22) (want_yes rfl rfl rfl hc54) rfl (by decide) (q_move e53_10) ?_
                    refine GoOps.q (v := .int .i64 (y22.len : Int)) (want_yes rfl rfl rfl hc54) rfl (by decide) (q_len Try.underlying26 rfl (ls1 rfl)) ?_
                    refine GoOps.q (v := .bool ((y22.len : Int) == 0)) (want_yes rfl rfl rfl hc54) rfl (by decide) (q_eql rfl rfl) ?_
                    refine GoOps.q (v := .bool ((y22.len : Int) == 0)) rfl rfl (by decide) (q_pickT (btT rfl hc54) rfl) ?_
                    exact hj56 ((y22.len : Int) == 0) _ _ h (by exact ⟨e53_1, e53_11, e53_13, e53_14, e53_15, rfl⟩)
                  · have h := h.2 hc54
                    refine no_dst (want_no rfl rfl rfl hc54) rfl (by decide) ?_
                    refine no_dst (want_no rfl rfl rfl hc54) rfl (by decide) ?_
                    refine no_dst (want_no rfl rfl rfl hc54) rfl (by decide) ?_
                    refine GoOps.q (v := .bool false) rfl rfl (by decide) (q_pickF (btF rfl hc54) rfl) ?_
                    exact hj56 false _ _ h (by exact ⟨e53_1, e53_11, e53_13, e53_14, e53_15, rfl⟩)
              · intro j51 hj51 h
                rcases bor s45 with hc49 | hc49
                · have h := h.1 hc49
                  refine GoOps.q (v := .int .i64 y19) (want_yes rfl rfl rfl hc49) rfl (by decide) (q_move e48_8) ?_
                  refine GoOps.q (v := .bool (y19 == 60)) (want_yes rfl rfl rfl hc49) rfl (by decide) (q_eql rfl rfl) ?_
                  refine GoOps.q (v := .bool (y19 == 60)) rfl rfl (by decide) (q_pickT (btT rfl hc49) rfl) ?_
                  exact hj51 (y19 == 60) _ _ h (by exact ⟨e48_1, e48_10, e48_11, e48_13, e48_14, e48_15, rfl⟩)
                · have h := h.2 hc49
                  refine no_dst (want_no rfl rfl rfl hc49) rfl (by decide) ?_
                  refine no_dst (want_no rfl rfl rfl hc49) rfl (by decide) ?_
                  refine GoOps.q (v := .bool false) rfl rfl (by decide) (q_pickF (btF rfl hc49) rfl) ?_
                  exact hj51 false _ _ h (by exact ⟨e48_1, e48_10, e48_11, e48_13, e48_14, e48_15, rfl⟩)
            · intro j46 hj46 h
              rcases bor s40 with hc44 | hc44
              · have h := h.1 hc44
                refine GoOps.q (v := .int .i64 y16) (want_yes rfl rfl rfl hc44) rfl (by decide) (q_move e43_6) ?_
                refine GoOps.q (v := .bool (y16 == 0)) (want_yes rfl rfl rfl hc44) rfl (by decide) (q_eql rfl rfl) ?_
                refine GoOps.q (v := .bool (y16 == 0)) rfl rfl (by decide) (q_pickT (btT rfl hc44) rfl) ?_
                exact hj46 (y16 == 0) _ _ h (by exact ⟨e43_1, e43_8, e43_10, e43_11, e43_13, e43_14, e43_15, rfl⟩)
              · have h := h.2 hc44
                refine no_dst (want_no rfl rfl rfl hc44) rfl (by decide) ?_
                refine no_dst (want_no rfl rfl rfl hc44) rfl (by decide) ?_
                refine GoOps.q (v := .bool false) rfl rfl (by decide) (q_pickF (btF rfl hc44) rfl) ?_
                exact hj46 false _ _ h (by exact ⟨e43_1, e43_8, e43_10, e43_11, e43_13, e43_14, e43_15, rfl⟩)
          · intro j41 hj41 h
            rcases bor s35 with hc39 | hc39
            · have h := h.1 hc39
              refine GoOps.q (v := .bool y14) (want_yes rfl rfl rfl hc39) rfl (by decide) (q_move e38_5) ?_
              refine GoOps.q (v := .bool y14) rfl rfl (by decide) (q_pickT (btT rfl hc39) rfl) ?_
              exact hj41 y14 _ _ h (by exact ⟨e38_1, e38_6, e38_8, e38_10, e38_11, e38_13, e38_14, e38_15, rfl⟩)
            · have h := h.2 hc39
              refine no_dst (want_no rfl rfl rfl hc39) rfl (by decide) ?_
              refine GoOps.q (v := .bool false) rfl rfl (by decide) (q_pickF (btF rfl hc39) rfl) ?_
              exact hj41 false _ _ h (by exact ⟨e38_1, e38_6, e38_8, e38_10, e38_11, e38_13, e38_14, e38_15, rfl⟩)
        · intro j36 hj36 h
          rcases bor s30 with hc34 | hc34
          · have h := h.1 hc34
            refine GoOps.q (v := .int .i64 y13) (want_yes rfl rfl rfl hc34) rfl (by decide) (q_move e33_4) ?_
            refine GoOps.q (v := .bool (y13 == 50)) (want_yes rfl rfl rfl hc34) rfl (by decide) (q_eql rfl rfl) ?_
            refine GoOps.q (v := .bool (y13 == 50)) rfl rfl (by decide) (q_pickT (btT rfl hc34) rfl) ?_
            exact hj36 (y13 == 50) _ _ h (by exact ⟨e33_1, e33_5, e33_6, e33_8, e33_10, e33_11, e33_13, e33_14, e33_15, rfl⟩)
          · have h := h.2 hc34
            refine no_dst (want_no rfl rfl rfl hc34) rfl (by decide) ?_
            refine no_dst (want_no rfl rfl rfl hc34) rfl (by decide) ?_
            refine GoOps.q (v := .bool false) rfl rfl (by decide) (q_pickF (btF rfl hc34) rfl) ?_
            exact hj36 false _ _ h (by exact ⟨e33_1, e33_5, e33_6, e33_8, e33_10, e33_11, e33_13, e33_14, e33_15, rfl⟩)
      · intro j31 hj31 h
        rcases bor (y10 == 0) with hc29 | hc29
        · have h := h.1 hc29
          refine GoOps.q (v := .bool y11) (want_yes rfl rfl rfl hc29) rfl (by decide) (q_move rfl) ?_
          refine GoOps.q (v := .bool y11) rfl rfl (by decide) (q_pickT (btT rfl hc29) rfl) ?_
          exact hj31 y11 _ _ h (by exact ⟨e7_1, rfl, rfl, rfl, rfl, rfl, rfl, rfl, rfl, rfl, rfl⟩)
        · have h := h.2 hc29
          refine no_dst (want_no rfl rfl rfl hc29) rfl (by decide) ?_
          refine GoOps.q (v := .bool false) rfl rfl (by decide) (q_pickF (btF rfl hc29) rfl) ?_
          exact hj31 false _ _ h (by exact ⟨e7_1, rfl, rfl, rfl, rfl, rfl, rfl, rfl, rfl, rfl, rfl⟩)
  · intro j5 hj5 h
    rcases bor (Option.isNone y2) with hc3 | hc3
    · have h := h.1 hc3
      refine no_dst (want_no rfl rfl rfl hc3) rfl (by decide) ?_
      refine no_dst (want_no rfl rfl rfl hc3) rfl (by decide) ?_
      refine GoOps.q (v := .bool true) rfl rfl (by decide) (q_pickT (btT rfl hc3) rfl) ?_
      exact hj5 true _ _ h (by exact ⟨rfl, rfl⟩)
    · have h := h.2 hc3
      refine call_dst (want_yes rfl rfl rfl hc3) (by decide) body7 (image_New_s _ _ _ h) rfl ?_
      rintro _ H114 ⟨y115, rfl, h⟩
      refine GoOps.q (v := .bool (!(Option.isNone y115))) (want_yes rfl rfl rfl hc3) rfl (by decide) (q_neqPn Try.underlying24 rfl rfl) ?_
      refine GoOps.q (v := .bool (!(Option.isNone y115))) rfl rfl (by decide) (q_pickF (btF rfl hc3) rfl) ?_
      exact hj5 (!(Option.isNone y115)) _ _ h (by exact ⟨rfl, rfl⟩)

/-- keelson.keelsonref1.Mod -/
def keelsonref1_Mod (p0 : Int) (p1 : Int) (H : PH) (Q : Int → PH → Prop) : Prop :=
  mNe p1 <|
  mJoin (fun (s2 : Int) (H4 : PH) =>
  Q s2 H4)
  fun j3 =>
  mIf (decide ((Int.tmod p0 p1) < 0))
  (j3 (IntKind.wrap .i64 ((Int.tmod p0 p1) + p1)) H)
  (j3 (Int.tmod p0 p1) H)

set_option maxRecDepth 20000 in
set_option maxHeartbeats 1000000 in
theorem keelsonref1_Mod_s (p0 : Int) (p1 : Int) (H : PH) (Q : Int → PH → Prop) (h : keelsonref1_Mod p0 p1 H Q) :
    CallsH Try.prog 25 #[.int .i64 p0, .int .i64 p1] H (fun v H' => ∃ (r0 : Int), v = .int .i64 r0 ∧ Q r0 H') := by
  unfold keelsonref1_Mod at h
  refine callsH_of_go Try.func25 rfl Try.ntmps25 (Nat.le_of_ble_eq_true rfl) ?_
  refine Go.seq ?_
  refine Go.region rfl ?_
  refine GoOps.q (v := .int .i64 0) rfl rfl (by decide) (q_assign rfl) ?_
  refine GoOps.nil ?_
  refine Go.seq ?_
  refine Go.region rfl ?_
  refine GoOps.q (v := .int .i64 p0) rfl rfl (by decide) (q_move rfl) ?_
  refine GoOps.q (v := .int .i64 p1) rfl rfl (by decide) (q_move rfl) ?_
  obtain ⟨hn1, h⟩ := h
  refine GoOps.q (v := .int .i64 (Int.tmod p0 p1)) rfl rfl (by decide) (q_rem hn1 rfl rfl) ?_
  refine GoOps.q (v := .int .i64 (Int.tmod p0 p1)) rfl rfl (by decide) (q_assign rfl) ?_
  refine GoOps.nil ?_
  refine Go.seq ?_
  refine Go.seq ?_
  refine Go.region rfl ?_
  refine GoOps.q (v := .int .i64 (Int.tmod p0 p1)) rfl rfl (by decide) (q_move rfl) ?_
  refine GoOps.q (v := .bool (decide ((Int.tmod p0 p1) < 0))) rfl rfl (by decide) (q_lss rfl rfl) ?_
  refine GoOps.nil ?_
  refine join_go 1 (fun ρ (s2 : Int) => ρ 5 = .int .i64 s2) h ?_ ?_ <;> clear h
  · intro s2 H4 ρ h hE
    have e5_5 := hE
    refine Go.seq ?_
    refine Go.region rfl ?_
    refine GoOps.q (v := .int .i64 s2) rfl rfl (by decide) (q_move e5_5) ?_
    refine GoOps.q (v := .int .i64 s2) rfl rfl (by decide) (q_assign rfl) ?_
    refine GoOps.nil ?_
    exact Go.ret ⟨.inl rfl, _, _, DOk.nil, (resOk1 Try.results25 rfl), ⟨_, rfl, h⟩⟩
  · intro j3 hj3 h
    rcases bor (decide ((Int.tmod p0 p1) < 0)) with hc6 | hc6
    · have h := h.1 hc6
      refine Go.condT (btT rfl hc6) ?_
      refine Go.region rfl ?_
      refine GoOps.q (v := .int .i64 (Int.tmod p0 p1)) rfl rfl (by decide) (q_move rfl) ?_
      refine GoOps.q (v := .int .i64 p1) rfl rfl (by decide) (q_move rfl) ?_
      refine GoOps.q (v := .int .i64 (IntKind.wrap .i64 ((Int.tmod p0 p1) + p1))) rfl rfl (by decide) (q_add rfl rfl) ?_
      refine GoOps.q (v := .int .i64 (IntKind.wrap .i64 ((Int.tmod p0 p1) + p1))) rfl rfl (by decide) (q_assign rfl) ?_
      refine GoOps.nil ?_
      exact hj3 _ _ _ h rfl
    · have h := h.2 hc6
      refine Go.condF (btF rfl hc6) ?_
      refine Go.skip ?_
      exact hj3 _ _ _ h rfl

/-- keelson.keelsonalike.Round -/
def keelsonalike_Round (p0 : Int) (p1 : Int) (H : PH) (Q : Int → PH → Prop) : Prop :=
  keelsonref1_Mod p0 p1 H fun y2 H1 =>
  Q y2 H1

set_option maxRecDepth 20000 in
set_option maxHeartbeats 1000000 in
theorem keelsonalike_Round_s (p0 : Int) (p1 : Int) (H : PH) (Q : Int → PH → Prop) (h : keelsonalike_Round p0 p1 H Q) :
    CallsH Try.prog 8 #[.int .i64 p0, .int .i64 p1] H (fun v H' => ∃ (r0 : Int), v = .int .i64 r0 ∧ Q r0 H') := by
  unfold keelsonalike_Round at h
  refine callsH_of_go Try.func8 rfl Try.ntmps8 (Nat.le_of_ble_eq_true rfl) ?_
  refine Go.seq ?_
  refine Go.region rfl ?_
  refine GoOps.q (v := .int .i64 0) rfl rfl (by decide) (q_assign rfl) ?_
  refine GoOps.nil ?_
  refine Go.seq ?_
  refine Go.region rfl ?_
  refine GoOps.q (v := .int .i64 p0) rfl rfl (by decide) (q_move rfl) ?_
  refine GoOps.q (v := .int .i64 p1) rfl rfl (by decide) (q_move rfl) ?_
  refine call_dst rfl (by decide) body25 (keelsonref1_Mod_s _ _ _ _ h) rfl ?_
  rintro _ H1 ⟨y2, rfl, h⟩
  refine GoOps.q (v := .int .i64 y2) rfl rfl (by decide) (q_assign rfl) ?_
  refine GoOps.nil ?_
  exact Go.ret ⟨.inl rfl, _, _, DOk.nil, (resOk1 Try.results8 rfl), ⟨_, rfl, h⟩⟩

/-- (*keelson.image.Image).none -/
def image_Image_none (p0 : Option Addr) (p1 : Bool) (p2 : Int) (p3 : Int) (H : PH) (Q : Sl → Bool → PH → Prop) : Prop :=
  image_Image_has p0 p2 p3 H fun y2 H1 =>
  mIf (!y2)
  (Q Sl.nil false H1)
  (mLoop (fun (s4 : Sl × Int) (H7 : PH) (again5 : (Sl × Int) → PH → Prop) =>
  mIf (decide (s4.2 < p3))
  (mJoin (fun (s9 : Sl) (H11 : PH) =>
  again5 (s9, IntKind.wrap .i64 (s4.2 + 1)) H11)
  fun j10 =>
  image_Image_table p0 p1 H7 fun y14 H13 =>
  image_set y14 (IntKind.wrap .i64 (p2 + s4.2)) 0 H13 fun y16 H15 =>
  mIf (decide (0 < y16))
  (mNewS H15 (row [.int .i64 y16] 3) 1 fun r18 H19 =>
  mApp H19 3 1 8 [.int .i64 0] s4.1 r18 fun r21 H22 =>
  j10 r21 H22)
  (j10 s4.1 H15))
  (Q s4.1 true H7))
  (Sl.nil, 0) H1)

set_option maxRecDepth 20000 in
set_option maxHeartbeats 1000000 in
theorem image_Image_none_s (p0 : Option Addr) (p1 : Bool) (p2 : Int) (p3 : Int) (H : PH) (Q : Sl → Bool → PH → Prop) (h : image_Image_none p0 p1 p2 p3 H Q) :
    CallsH Try.prog 27 #[.pointer p0, .bool p1, .int .i64 p2, .int .i64 p3] H (fun v H' => ∃ (r0 : Sl) (r1 : Bool), v = .tuple #[Sl.v r0, .bool r1] ∧ Q r0 r1 H') := by
  unfold image_Image_none at h
  refine callsH_of_go Try.func27 rfl Try.ntmps27 (Nat.le_of_ble_eq_true rfl) ?_
  refine Go.seq ?_
  refine Go.region rfl ?_
  refine GoOps.q (v := Sl.v Sl.nil) rfl rfl (by decide) (q_assign rfl) ?_
  refine GoOps.q (v := .bool false) rfl rfl (by decide) (q_assign rfl) ?_
  refine GoOps.nil ?_
  refine Go.seq ?_
  refine Go.seq ?_
  refine Go.region rfl ?_
  refine GoOps.q (v := .pointer p0) rfl rfl (by decide) (q_move rfl) ?_
  refine GoOps.q (v := .int .i64 p2) rfl rfl (by decide) (q_move rfl) ?_
  refine GoOps.q (v := .int .i64 p3) rfl rfl (by decide) (q_move rfl) ?_
  refine call_dst rfl (by decide) body34 (image_Image_has_s _ _ _ _ _ h) rfl ?_
  rintro _ H1 ⟨y2, rfl, h⟩
  refine GoOps.q (v := .bool (!y2)) rfl rfl (by decide) (q_not rfl) ?_
  refine GoOps.nil ?_
  rcases bor (!y2) with hc3 | hc3
  · have h := h.1 hc3
    refine Go.condT (btT rfl hc3) ?_
    refine Go.seq ?_
    refine Go.region rfl ?_
    refine GoOps.q (v := Sl.v Sl.nil) rfl rfl (by decide) (q_assign rfl) ?_
    refine GoOps.q (v := .bool false) rfl rfl (by decide) (q_assign rfl) ?_
    refine GoOps.nil ?_
    exact Go.ret ⟨.inl rfl, _, _, DOk.nil, (resOk2 Try.results27 rfl rfl), ⟨_, _, rfl, h⟩⟩
  · have h := h.2 hc3
    refine Go.condF (btF rfl hc3) ?_
    refine Go.skip ?_
    refine Go.seq ?_
    refine Go.seq ?_
    refine Go.region rfl ?_
    refine GoOps.q (v := .int .i64 p3) rfl rfl (by decide) (q_move rfl) ?_
    refine GoOps.q (v := .int .i64 0) rfl rfl (by decide) (q_move rfl) ?_
    refine GoOps.nil ?_
    refine Go.block ?_
    refine loop_go (fun ρ (s4 : Sl × Int) => ρ 0 = .pointer p0 ∧ ρ 1 = .bool p1 ∧ ρ 2 = .int .i64 p2 ∧ ρ 8 = Sl.v s4.1 ∧ ρ 17 = .int .i64 p3 ∧ ρ 18 = .int .i64 s4.2) h ⟨rfl, rfl, rfl, rfl, rfl, rfl⟩ ?_
    clear h
    intro ρ s4 H7 again5 hE h hagain5
    obtain ⟨e6_0, e6_1, e6_2, e6_8, e6_17, e6_18⟩ := hE
    refine Go.seq ?_
    refine Go.region rfl ?_
    refine GoOps.q (v := .bool (decide (s4.2 < p3))) rfl rfl (by decide) (q_lss e6_18 e6_17) ?_
    refine GoOps.nil ?_
    refine Go.seq ?_
    rcases bor (decide (s4.2 < p3)) with hc8 | hc8
    · have h := h.1 hc8
      refine Go.condT (btT rfl hc8) ?_
      refine Go.skip ?_
      refine Go.seq ?_
      refine join_go 1 (fun ρ (s9 : Sl) => ρ 0 = .pointer p0 ∧ ρ 1 = .bool p1 ∧ ρ 2 = .int .i64 p2 ∧ ρ 8 = Sl.v s9 ∧ ρ 17 = .int .i64 p3 ∧ ρ 18 = .int .i64 s4.2) h ?_ ?_ <;> clear h
      · intro s9 H11 ρ h hE
        obtain ⟨e12_0, e12_1, e12_2, e12_8, e12_17, e12_18⟩ := hE
        refine Go.region rfl ?_
        refine GoOps.q (v := .int .i64 (IntKind.wrap .i64 (s4.2 + 1))) rfl rfl (by decide) (q_add e12_18 rfl) ?_
        refine GoOps.q (v := .int .i64 (IntKind.wrap .i64 (s4.2 + 1))) rfl rfl (by decide) (q_move rfl) ?_
        refine GoOps.nil ?_
        exact hagain5 _ _ _ h ⟨e12_0, e12_1, e12_2, e12_8, e12_17, rfl⟩
      · intro j10 hj10 h
        refine Go.block ?_
        refine Go.seq ?_
        refine Go.region rfl ?_
        refine GoOps.q (v := .int .i64 s4.2) rfl rfl (by decide) (q_move e6_18) ?_
        refine GoOps.q (v := .int .i64 s4.2) rfl rfl (by decide) (q_assign rfl) ?_
        refine GoOps.nil ?_
        refine Go.seq ?_
        refine Go.region rfl ?_
        refine GoOps.q (v := .pointer p0) rfl rfl (by decide) (q_move e6_0) ?_
        refine GoOps.q (v := .bool p1) rfl rfl (by decide) (q_move e6_1) ?_
        refine call_dst rfl (by decide) body28 (image_Image_table_s _ _ _ _ h) rfl ?_
        rintro _ H13 ⟨y14, rfl, h⟩
        refine GoOps.q (v := .int .i64 p2) rfl rfl (by decide) (q_move e6_2) ?_
        refine GoOps.q (v := .int .i64 s4.2) rfl rfl (by decide) (q_move rfl) ?_
        refine GoOps.q (v := .int .i64 (IntKind.wrap .i64 (p2 + s4.2))) rfl rfl (by decide) (q_add rfl rfl) ?_
        refine call_dst rfl (by decide) body30 (image_set_s _ _ _ _ _ h) rfl ?_
        rintro _ H15 ⟨y16, rfl, h⟩
        refine GoOps.q (v := .int .i64 y16) rfl rfl (by decide) (q_assign rfl) ?_
        refine GoOps.nil ?_
        refine Go.seq ?_
        refine Go.region rfl ?_
        refine GoOps.q (v := .int .i64 y16) rfl rfl (by decide) (q_move rfl) ?_
        refine GoOps.q (v := .bool (decide (0 < y16))) rfl rfl (by decide) (q_gtr rfl rfl) ?_
        refine GoOps.nil ?_
        rcases bor (decide (0 < y16)) with hc17 | hc17
        · have h := h.1 hc17
          refine Go.condT (btT rfl hc17) ?_
          refine Go.region rfl ?_
          refine GoOps.q (v := Sl.v s4.1) rfl rfl (by decide) (q_move e6_8) ?_
          refine GoOps.q (v := .int .i64 y16) rfl rfl (by decide) (q_move rfl) ?_
          refine op_dst rfl rfl (by decide) (do_bs (ps := [(0, .int .i64 y16)]) (zs := [.int .i64 0]) (cs := [.int .i64 y16]) slice26 zero3 rfl rfl (by decide) (by decide) rfl rfl fun r18 H19 hb20 => ?_) 
          have h := h r18 H19 hb20
          refine op_dst rfl rfl (by decide) (do_append (zs := [.int .i64 0]) slice26 bytes3 (by decide) zero3 rfl rfl (by decide) rfl rfl Try.underlying26 rfl h fun r21 H22 h => ?_) 
          refine GoOps.q (v := Sl.v r21) rfl rfl (by decide) (q_assign rfl) ?_
          refine GoOps.nil ?_
          refine Go.inBlock ?_
          exact hj10 _ _ _ h ⟨e6_0, e6_1, e6_2, rfl, e6_17, e6_18⟩
        · have h := h.2 hc17
          refine Go.condF (btF rfl hc17) ?_
          refine Go.skip ?_
          refine Go.inBlock ?_
          exact hj10 _ _ _ h ⟨e6_0, e6_1, e6_2, e6_8, e6_17, e6_18⟩
    · have h := h.2 hc8
      refine Go.condF (btF rfl hc8) ?_
      refine Go.exit rfl ?_
      refine Go.seq ?_
      refine Go.region rfl ?_
      refine GoOps.q (v := Sl.v s4.1) rfl rfl (by decide) (q_move e6_8) ?_
      refine GoOps.q (v := Sl.v s4.1) rfl rfl (by decide) (q_assign rfl) ?_
      refine GoOps.q (v := .bool true) rfl rfl (by decide) (q_assign rfl) ?_
      refine GoOps.nil ?_
      exact Go.ret ⟨.inl rfl, _, _, DOk.nil, (resOk2 Try.results27 rfl rfl), ⟨_, _, rfl, h⟩⟩

/-- (*keelson.image.Image).Trim -/
def image_Image_Trim (p0 : Option Addr) (p1 : Int) (p2 : Int) (H : PH) (Q : Sl → Bool → PH → Prop) : Prop :=
  image_Image_none p0 true p1 p2 H fun y2 y3 H1 =>
  Q y2 y3 H1

set_option maxRecDepth 20000 in
set_option maxHeartbeats 1000000 in
theorem image_Image_Trim_s (p0 : Option Addr) (p1 : Int) (p2 : Int) (H : PH) (Q : Sl → Bool → PH → Prop) (h : image_Image_Trim p0 p1 p2 H Q) :
    CallsH Try.prog 10 #[.pointer p0, .int .i64 p1, .int .i64 p2] H (fun v H' => ∃ (r0 : Sl) (r1 : Bool), v = .tuple #[Sl.v r0, .bool r1] ∧ Q r0 r1 H') := by
  unfold image_Image_Trim at h
  refine callsH_of_go Try.func10 rfl Try.ntmps10 (Nat.le_of_ble_eq_true rfl) ?_
  refine Go.seq ?_
  refine Go.region rfl ?_
  refine GoOps.q (v := Sl.v Sl.nil) rfl rfl (by decide) (q_assign rfl) ?_
  refine GoOps.q (v := .bool false) rfl rfl (by decide) (q_assign rfl) ?_
  refine GoOps.nil ?_
  refine Go.seq ?_
  refine Go.region rfl ?_
  refine GoOps.q (v := .pointer p0) rfl rfl (by decide) (q_move rfl) ?_
  refine GoOps.q (v := .int .i64 p1) rfl rfl (by decide) (q_move rfl) ?_
  refine GoOps.q (v := .int .i64 p2) rfl rfl (by decide) (q_move rfl) ?_
  refine call_dst rfl (by decide) body27 (image_Image_none_s _ _ _ _ _ _ h) rfl ?_
  rintro _ H1 ⟨y2, y3, rfl, h⟩
  refine GoOps.q (v := Sl.v y2) rfl rfl (by decide) (q_extract rfl rfl) ?_
  refine GoOps.q (v := .bool y3) rfl rfl (by decide) (q_extract rfl rfl) ?_
  refine GoOps.q (v := Sl.v y2) rfl rfl (by decide) (q_assign rfl) ?_
  refine GoOps.q (v := .bool y3) rfl rfl (by decide) (q_assign rfl) ?_
  refine GoOps.nil ?_
  exact Go.ret ⟨.inl rfl, _, _, DOk.nil, (resOk2 Try.results10 rfl rfl), ⟨_, _, rfl, h⟩⟩

/-- (*keelson.image.Image).Forget -/
def image_Image_Forget (p0 : Option Addr) (H : PH) (Q : Sl → PH → Prop) : Prop :=
  mNew H (row [.pointer p0] 24) fun a1 H2 =>
  mNew H2 (row [.slice none 0 0] 26) fun a4 H5 =>
  mLd .pointer H5 a1 fun x7 =>
  image_Image_table x7 true H5 fun y10 H9 =>
  paged_Paged_int_All y10 H9 fun y12 H11 =>
  IterH Try.prog y12 (fun (vs13 : List Value) (q14 : Unit) (H15 : PH) (y16 : Nat → Unit → PH → Prop) =>
  ∃ (x17 : Int) (x18 : Int), vs13 = [.int .i64 x17, .int .i64 x18] ∧
  mLd .pointer H15 a1 fun x19 =>
  mNil x19 fun a21 =>
  mLd .pointer H15 (a21.add 1) fun x23 =>
  image_set x23 x17 (-1) H15 fun y26 H25 =>
  mIf (decide (0 < y26))
  (mLd Sl.v H25 a4 fun x28 =>
  mNewS H25 (row [.int .i64 y26] 3) 1 fun r30 H31 =>
  mApp H31 3 1 8 [.int .i64 0] x28 r30 fun r33 H34 =>
  mSt H34 a4 ([Sl.v r33]) fun H35 =>
  y16 0 () H35)
  (y16 0 () H25)) () H11 fun _ q38 H39 =>
  mLd Sl.v H39 a4 fun x40 =>
  mSt H39 a4 ([Sl.v x40]) fun H42 =>
  mLd Sl.v H42 a4 fun x44 =>
  Q x44 H42

set_option maxRecDepth 20000 in
set_option maxHeartbeats 1000000 in
theorem image_Image_Forget_s (p0 : Option Addr) (H : PH) (Q : Sl → PH → Prop) (h : image_Image_Forget p0 H Q) :
    CallsH Try.prog 12 #[.pointer p0] H (fun v H' => ∃ (r0 : Sl), v = Sl.v r0 ∧ Q r0 H') := by
  unfold image_Image_Forget at h
  refine callsH_of_goM Try.func12 rfl Try.ntmps12 (Nat.le_of_ble_eq_true rfl) ?_
  intro D M hM hB hA
  refine Go.seq ?_
  refine Go.region rfl ?_
  refine op_dst rfl rfl (by decide) (do_newBox (cs := [.pointer p0]) rfl rfl fun a1 H2 hb3 => ?_) 
  have h := h a1 H2 hb3
  refine op_dst rfl rfl (by decide) (do_new zero26 rfl fun a4 H5 hb6 => ?_) 
  have h := h a4 H5 hb6
  refine GoOps.nil ?_
  refine Go.seq ?_
  refine Go.seq ?_
  refine Go.region rfl ?_
  obtain ⟨x7, hx8, h⟩ := h
  refine GoOps.q (v := .pointer x7) rfl rfl (by decide) (q_load scalar24 rfl hx8) ?_
  refine call_dst rfl (by decide) body28 (image_Image_table_s _ _ _ _ h) rfl ?_
  rintro _ H9 ⟨y10, rfl, h⟩
  refine call_dst rfl (by decide) body29 (paged_Paged_int_All_s _ _ _ h) rfl ?_
  rintro y12 H11 ⟨_, rfl, h⟩
  refine GoOps.nil ?_
  refine Go.block ?_
  refine go_range0 (g := ()) h rfl (fun _ _ _ h => h) rfl hM hB hA trivial ?_ ?_ <;> clear h
  · rintro _ q14 H15 y16 ⟨x17, x18, rfl, h⟩
    refine ⟨rfl, fun lp Bx r hr => ?_⟩
    clear hM hB hA
    intro D M hM hB hA
    refine Go.region rfl ?_
    refine GoOps.q (v := .int .i64 x17) rfl rfl (by decide) (q_assign rfl) ?_
    refine GoOps.nil ?_
    refine go_begin (g := ()) hr hB hA fun M hB hA => ?_
    have hM : Mk (some lp) D M := trivial
    refine Go.block ?_
    refine Go.seq ?_
    refine Go.region rfl ?_
    obtain ⟨x19, hx20, h⟩ := h
    refine GoOps.q (v := .pointer x19) rfl rfl (by decide) (q_load scalar24 rfl hx20) ?_
    obtain ⟨a21, ha22, h⟩ := h
    refine GoOps.q (v := .pointer (some a21)) rfl rfl (by decide) (q_nilCheck (ptn rfl ha22)) ?_
    refine GoOps.q (v := .pointer (some (a21.add 1))) rfl rfl (by decide) (q_fieldAddr foff51_1 rfl) ?_
    obtain ⟨x23, hx24, h⟩ := h
    refine GoOps.q (v := .pointer x23) rfl rfl (by decide) (q_load scalar48 rfl hx24) ?_
    refine GoOps.q (v := .int .i64 x17) rfl rfl (by decide) (q_move rfl) ?_
    refine call_dst rfl (by decide) body30 (image_set_s _ _ _ _ _ h) rfl ?_
    rintro _ H25 ⟨y26, rfl, h⟩
    refine GoOps.q (v := .int .i64 y26) rfl rfl (by decide) (q_assign rfl) ?_
    refine GoOps.nil ?_
    refine Go.seq ?_
    refine Go.region rfl ?_
    refine GoOps.q (v := .int .i64 y26) rfl rfl (by decide) (q_move rfl) ?_
    refine GoOps.q (v := .bool (decide (0 < y26))) rfl rfl (by decide) (q_gtr rfl rfl) ?_
    refine GoOps.nil ?_
    rcases bor (decide (0 < y26)) with hc27 | hc27
    · have h := h.1 hc27
      refine Go.condT (btT rfl hc27) ?_
      refine Go.region rfl ?_
      obtain ⟨x28, hx29, h⟩ := h
      refine GoOps.q (v := Sl.v x28) rfl rfl (by decide) (q_load scalar26 rfl hx29) ?_
      refine GoOps.q (v := .int .i64 y26) rfl rfl (by decide) (q_move rfl) ?_
      refine op_dst rfl rfl (by decide) (do_bs (ps := [(0, .int .i64 y26)]) (zs := [.int .i64 0]) (cs := [.int .i64 y26]) slice26 zero3 rfl rfl (by decide) (by decide) rfl rfl fun r30 H31 hb32 => ?_) 
      have h := h r30 H31 hb32
      refine op_dst rfl rfl (by decide) (do_append (zs := [.int .i64 0]) slice26 bytes3 (by decide) zero3 rfl rfl (by decide) rfl rfl Try.underlying26 rfl h fun r33 H34 h => ?_) 
      obtain ⟨q36b, q36o, q36c, q36e, hq36a, hq36b, hq36l, hq36v, h⟩ := h
      refine op_none rfl rfl (do_store (vs := [Sl.v r33]) size26 (pta rfl hq36a) rfl rfl rfl hq36v hq36b hq36l ?_) 
      refine GoOps.nil ?_
      refine Go.inBlock ?_
      exact Go.fallM (g := ()) hM hB hA ⟨0, rfl, h⟩
    · have h := h.2 hc27
      refine Go.condF (btF rfl hc27) ?_
      refine Go.skip ?_
      refine Go.inBlock ?_
      exact Go.fallM (g := ()) hM hB hA ⟨0, rfl, h⟩
  · intro q38 H39 h
    intro D M hM hB hA
    refine Go.inBlock ?_
    refine Go.seq ?_
    refine Go.region rfl ?_
    obtain ⟨x40, hx41, h⟩ := h
    refine GoOps.q (v := Sl.v x40) rfl rfl (by decide) (q_load scalar26 rfl hx41) ?_
    obtain ⟨q43b, q43o, q43c, q43e, hq43a, hq43b, hq43l, hq43v, h⟩ := h
    refine op_none rfl rfl (do_store (vs := [Sl.v x40]) size26 (pta rfl hq43a) rfl rfl rfl hq43v hq43b hq43l ?_) 
    refine GoOps.nil ?_
    obtain ⟨x44, hx45, h⟩ := h
    exact Go.retM (g := ()) hM hB hA ⟨.inl rfl, _, (resOkV1 Try.results12 (rv_cell scalar26 rfl hx45)), ⟨_, rfl, h⟩⟩

/-- (*keelson.image.Image).Drop -/
def image_Image_Drop (p0 : Option Addr) (p1 : Int) (p2 : Int) (H : PH) (Q : Sl → Bool → PH → Prop) : Prop :=
  image_Image_none p0 false p1 p2 H fun y2 y3 H1 =>
  Q y2 y3 H1

set_option maxRecDepth 20000 in
set_option maxHeartbeats 1000000 in
theorem image_Image_Drop_s (p0 : Option Addr) (p1 : Int) (p2 : Int) (H : PH) (Q : Sl → Bool → PH → Prop) (h : image_Image_Drop p0 p1 p2 H Q) :
    CallsH Try.prog 14 #[.pointer p0, .int .i64 p1, .int .i64 p2] H (fun v H' => ∃ (r0 : Sl) (r1 : Bool), v = .tuple #[Sl.v r0, .bool r1] ∧ Q r0 r1 H') := by
  unfold image_Image_Drop at h
  refine callsH_of_go Try.func14 rfl Try.ntmps14 (Nat.le_of_ble_eq_true rfl) ?_
  refine Go.seq ?_
  refine Go.region rfl ?_
  refine GoOps.q (v := Sl.v Sl.nil) rfl rfl (by decide) (q_assign rfl) ?_
  refine GoOps.q (v := .bool false) rfl rfl (by decide) (q_assign rfl) ?_
  refine GoOps.nil ?_
  refine Go.seq ?_
  refine Go.region rfl ?_
  refine GoOps.q (v := .pointer p0) rfl rfl (by decide) (q_move rfl) ?_
  refine GoOps.q (v := .int .i64 p1) rfl rfl (by decide) (q_move rfl) ?_
  refine GoOps.q (v := .int .i64 p2) rfl rfl (by decide) (q_move rfl) ?_
  refine call_dst rfl (by decide) body27 (image_Image_none_s _ _ _ _ _ _ h) rfl ?_
  rintro _ H1 ⟨y2, y3, rfl, h⟩
  refine GoOps.q (v := Sl.v y2) rfl rfl (by decide) (q_extract rfl rfl) ?_
  refine GoOps.q (v := .bool y3) rfl rfl (by decide) (q_extract rfl rfl) ?_
  refine GoOps.q (v := Sl.v y2) rfl rfl (by decide) (q_assign rfl) ?_
  refine GoOps.q (v := .bool y3) rfl rfl (by decide) (q_assign rfl) ?_
  refine GoOps.nil ?_
  exact Go.ret ⟨.inl rfl, _, _, DOk.nil, (resOk2 Try.results14 rfl rfl), ⟨_, _, rfl, h⟩⟩


end Go.Proofs.Ytmbfefbgjdpelaa

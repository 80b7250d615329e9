import Derived.Test.YtinjkdoikljakaaProg
import Derived.Test.YtinjkdoikljakaaKxF
import Derived.KernelRfl
set_option linter.unusedVariables false
set_option linter.unusedSimpArgs false
namespace Go.Proofs.Ytinjkdoikljakaa
open Go Go.Kx Go.Proofs
theorem body31 : Body Try.prog 31 := body_of Try.func31 rfl rfl
theorem body32 : Body Try.prog 32 := body_of Try.func32 rfl rfl
theorem foff32_0 : FieldOff Try.prog 32 0 0 := ⟨_, _, 1, Try.underlying32, rfl, rfl, by kernel_rfl, by decide⟩
theorem scalar3 : Scalar Try.prog 3 := ⟨_, Try.underlying3, trivial⟩
theorem aggr32 : Aggr Try.prog 32 3 := ⟨⟨_, Try.underlying32, trivial⟩, by kernel_rfl⟩
theorem places59 : PlacesOf Try.prog 59 [(0, 3)] := ⟨_, Try.underlying59, rfl, by kernel_rfl⟩
theorem zero59 : ZeroOf Try.prog 59 (.agg ([.int .i64 0, .int .i64 0, .int .i64 0] : List Value).toArray) := by unfold ZeroOf; kernel_rfl
theorem foff32_2 : FieldOff Try.prog 32 2 2 := ⟨_, _, 1, Try.underlying32, rfl, rfl, by kernel_rfl, by decide⟩
theorem body35 : Body Try.prog 35 := body_of Try.func35 rfl rfl
theorem foff32_1 : FieldOff Try.prog 32 1 1 := ⟨_, _, 1, Try.underlying32, rfl, rfl, by kernel_rfl, by decide⟩
theorem zero32 : ZeroOf Try.prog 32 (.agg ([.int .i64 0, .int .i64 0, .int .i64 0] : List Value).toArray) := by unfold ZeroOf; kernel_rfl
theorem places32 : PlacesOf Try.prog 32 [(0, 1), (1, 1), (2, 1)] := ⟨_, Try.underlying32, rfl, by kernel_rfl⟩
theorem size32 : (Try.prog.info? 32).map (·.size) = some 3 := by kernel_rfl
theorem foff59_0 : FieldOff Try.prog 59 0 0 := ⟨_, _, 3, Try.underlying59, rfl, rfl, by kernel_rfl, by decide⟩
theorem fis32_1 : FieldIs Try.prog 32 1 1 3 := ⟨_, _, Try.underlying32, rfl, rfl, rfl⟩
theorem slice38 : SliceOf Try.prog 38 40 2 := ⟨Try.underlying38, by kernel_rfl⟩
theorem aggr40 : Aggr Try.prog 40 2 := ⟨⟨_, Try.underlying40, trivial⟩, by kernel_rfl⟩
theorem zero40 : ZeroOf Try.prog 40 (.agg ([.int .i64 0, .int .i64 0] : List Value).toArray) := by unfold ZeroOf; kernel_rfl
theorem size40 : (Try.prog.info? 40).map (·.size) = some 2 := by kernel_rfl
theorem foff40_0 : FieldOff Try.prog 40 0 0 := ⟨_, _, 1, Try.underlying40, rfl, rfl, by kernel_rfl, by decide⟩
theorem foff40_1 : FieldOff Try.prog 40 1 1 := ⟨_, _, 1, Try.underlying40, rfl, rfl, by kernel_rfl, by decide⟩
theorem mixed : Try.prog.follows .mixedOrders = true := by kernel_rfl
theorem foff62_1 : FieldOff Try.prog 62 1 1 := ⟨_, _, 1, Try.underlying62, rfl, rfl, by kernel_rfl, by decide⟩
theorem scalar38 : Scalar Try.prog 38 := ⟨_, Try.underlying38, trivial⟩
theorem bytes40 : BytesOf Try.prog 40 16 := by unfold BytesOf; kernel_rfl
theorem slice30 : SliceOf Try.prog 30 3 1 := ⟨Try.underlying30, by kernel_rfl⟩
theorem bytes3 : BytesOf Try.prog 3 8 := by unfold BytesOf; kernel_rfl
theorem zero3 : ZeroOf Try.prog 3 (.int .i64 0) := by unfold ZeroOf; kernel_rfl
theorem places62 : PlacesOf Try.prog 62 [(0, 1), (1, 1), (2, 1)] := ⟨_, Try.underlying62, rfl, by kernel_rfl⟩
theorem zero62 : ZeroOf Try.prog 62 (.agg ([.pointer none, .slice none 0 0, .slice none 0 0] : List Value).toArray) := by unfold ZeroOf; kernel_rfl
theorem body36 : Body Try.prog 36 := body_of Try.func36 rfl rfl
theorem foff62_2 : FieldOff Try.prog 62 2 2 := ⟨_, _, 1, Try.underlying62, rfl, rfl, by kernel_rfl, by decide⟩
theorem scalar30 : Scalar Try.prog 30 := ⟨_, Try.underlying30, trivial⟩
theorem size3 : (Try.prog.info? 3).map (·.size) = some 1 := by kernel_rfl
theorem body47 : Body Try.prog 47 := body_of Try.func47 rfl rfl
theorem body24 : Body Try.prog 24 := body_of Try.func24 rfl rfl
theorem body49 : Body Try.prog 49 := body_of Try.func49 rfl rfl
theorem body48 : Body Try.prog 48 := body_of Try.func48 rfl rfl
theorem scalar41 : Scalar Try.prog 41 := ⟨_, Try.underlying41, trivial⟩
theorem body55 : Body Try.prog 55 := body_of Try.func55 rfl rfl
theorem array27 : ArrayOf Try.prog 27 3 3 1 := ⟨Try.underlying27, by kernel_rfl⟩
theorem zero27 : ZeroOf Try.prog 27 (.agg ([.int .i64 0, .int .i64 0, .int .i64 0] : List Value).toArray) := by unfold ZeroOf; kernel_rfl
theorem zero4 : ZeroOf Try.prog 4 (.bool false) := by unfold ZeroOf; kernel_rfl
theorem size4 : (Try.prog.info? 4).map (·.size) = some 1 := by kernel_rfl
theorem scalar34 : Scalar Try.prog 34 := ⟨_, Try.underlying34, trivial⟩
theorem scalar4 : Scalar Try.prog 4 := ⟨_, Try.underlying4, trivial⟩
theorem aggr27 : Aggr Try.prog 27 3 := ⟨⟨_, Try.underlying27, trivial⟩, by kernel_rfl⟩
theorem size27 : (Try.prog.info? 27).map (·.size) = some 3 := by kernel_rfl
theorem body12 : Body Try.prog 12 := body_of Try.func12 rfl rfl
theorem fis32_2 : FieldIs Try.prog 32 2 2 3 := ⟨_, _, Try.underlying32, rfl, rfl, rfl⟩
theorem body8 : Body Try.prog 8 := body_of Try.func8 rfl rfl
theorem body44 : Body Try.prog 44 := body_of Try.func44 rfl rfl
theorem body30 : Body Try.prog 30 := body_of Try.func30 rfl rfl
theorem body29 : Body Try.prog 29 := body_of Try.func29 rfl rfl
theorem body28 : Body Try.prog 28 := body_of Try.func28 rfl rfl
theorem body43 : Body Try.prog 43 := body_of Try.func43 rfl rfl
theorem body56 : Body Try.prog 56 := body_of Try.func56 rfl rfl
theorem fis32_0 : FieldIs Try.prog 32 0 0 3 := ⟨_, _, Try.underlying32, rfl, rfl, rfl⟩
theorem body53 : Body Try.prog 53 := body_of Try.func53 rfl rfl
theorem body52 : Body Try.prog 52 := body_of Try.func52 rfl rfl
theorem body39 : Body Try.prog 39 := body_of Try.func39 rfl rfl
theorem body38 : Body Try.prog 38 := body_of Try.func38 rfl rfl
theorem body51 : Body Try.prog 51 := body_of Try.func51 rfl rfl
theorem foff62_0 : FieldOff Try.prog 62 0 0 := ⟨_, _, 1, Try.underlying62, rfl, rfl, by kernel_rfl, by decide⟩
theorem body37 : Body Try.prog 37 := body_of Try.func37 rfl rfl
theorem body22 : Body Try.prog 22 := body_of Try.func22 rfl rfl
theorem body18 : Body Try.prog 18 := body_of Try.func18 rfl rfl
theorem body19 : Body Try.prog 19 := body_of Try.func19 rfl rfl
theorem body25 : Body Try.prog 25 := body_of Try.func25 rfl rfl
theorem body33 : Body Try.prog 33 := body_of Try.func33 rfl rfl
theorem body16 : Body Try.prog 16 := body_of Try.func16 rfl rfl
theorem body15 : Body Try.prog 15 := body_of Try.func15 rfl rfl
theorem body10 : Body Try.prog 10 := body_of Try.func10 rfl rfl
theorem body9 : Body Try.prog 9 := body_of Try.func9 rfl rfl
theorem body34 : Body Try.prog 34 := body_of Try.func34 rfl rfl
theorem body11 : Body Try.prog 11 := body_of Try.func11 rfl rfl
theorem eqg27 : Try.prog.eqGuardType Try.prog.depth 27 = false := by kernel_rfl
theorem body13 : Body Try.prog 13 := body_of Try.func13 rfl rfl
theorem foff64_1 : FieldOff Try.prog 64 1 3 := ⟨_, _, 1, Try.underlying64, rfl, rfl, by kernel_rfl, by decide⟩
theorem places64 : PlacesOf Try.prog 64 [(0, 3), (3, 1), (4, 1)] := ⟨_, Try.underlying64, rfl, by kernel_rfl⟩
theorem zero64 : ZeroOf Try.prog 64 (.agg ([.int .i64 0, .int .i64 0, .int .i64 0, .slice none 0 0, .slice none 0 0] : List Value).toArray) := by unfold ZeroOf; kernel_rfl
theorem body54 : Body Try.prog 54 := body_of Try.func54 rfl rfl
theorem body42 : Body Try.prog 42 := body_of Try.func42 rfl rfl
theorem body41 : Body Try.prog 41 := body_of Try.func41 rfl rfl
theorem body21 : Body Try.prog 21 := body_of Try.func21 rfl rfl
theorem foff64_0 : FieldOff Try.prog 64 0 0 := ⟨_, _, 3, Try.underlying64, rfl, rfl, by kernel_rfl, by decide⟩
theorem foff64_2 : FieldOff Try.prog 64 2 4 := ⟨_, _, 1, Try.underlying64, rfl, rfl, by kernel_rfl, by decide⟩
theorem body40 : Body Try.prog 40 := body_of Try.func40 rfl rfl
theorem body46 : Body Try.prog 46 := body_of Try.func46 rfl rfl
theorem body45 : Body Try.prog 45 := body_of Try.func45 rfl rfl
theorem places40 : PlacesOf Try.prog 40 [(0, 1), (1, 1)] := ⟨_, Try.underlying40, rfl, by kernel_rfl⟩
theorem body20 : Body Try.prog 20 := body_of Try.func20 rfl rfl
theorem body23 : Body Try.prog 23 := body_of Try.func23 rfl rfl
theorem body17 : Body Try.prog 17 := body_of Try.func17 rfl rfl
theorem body14 : Body Try.prog 14 := body_of Try.func14 rfl rfl
theorem body26 : Body Try.prog 26 := body_of Try.func26 rfl rfl
theorem body27 : Body Try.prog 27 := body_of Try.func27 rfl rfl

/-- keelson.victim.within -/
def victim_within (p0 : Int) (p1 : Int) (p2 : Int) (H : PH) (Q : Bool → PH → Prop) : Prop :=
  mJoin (fun (s2 : Bool) (H4 : PH) =>
  Q s2 H4)
  fun j3 =>
  mIf (decide (p1 ≤ p0))
  (j3 (decide (p0 ≤ p2)) H)
  (j3 false H)

set_option maxRecDepth 20000 in
set_option maxHeartbeats 1000000 in
theorem victim_within_s (p0 : Int) (p1 : Int) (p2 : Int) (H : PH) (Q : Bool → PH → Prop) (h : victim_within p0 p1 p2 H Q) :
    CallsH Try.prog 31 #[.int .i64 p0, .int .i64 p1, .int .i64 p2] H (fun v H' => ∃ (r0 : Bool), v = .bool r0 ∧ Q r0 H') := by
  unfold victim_within at h
  refine callsH_of_go Try.func31 rfl Try.ntmps31 (Nat.le_of_ble_eq_true rfl) ?_
  refine Go.seq ?_
  refine Go.region rfl ?_
  refine GoOps.q (v := .bool false) rfl rfl (by decide) (q_assign rfl) ?_
  refine GoOps.nil ?_
  refine Go.seq ?_
  refine Go.region rfl ?_
  refine GoOps.q (v := .int .i64 p0) rfl rfl (by decide) (q_move rfl) ?_
  refine GoOps.q (v := .int .i64 p1) rfl rfl (by decide) (q_move rfl) ?_
  refine GoOps.q (v := .bool (decide (p1 ≤ p0))) rfl rfl (by decide) (q_geq rfl rfl) ?_
  refine GoOps.q (v := .bool (decide (p1 ≤ p0))) rfl rfl (by decide) (q_move rfl) ?_
  refine join_ops 4 (fun ρ (s2 : Bool) => ρ 14 = .bool s2) h ?_ ?_ <;> clear h
  · intro s2 H4 ρ h hE
    have e5_14 := hE
    refine GoOps.q (v := .bool s2) rfl rfl (by decide) (q_assign e5_14) ?_
    refine GoOps.nil ?_
    exact Go.ret ⟨.inl rfl, _, _, DOk.nil, (resOk1 Try.results31 rfl), ⟨_, rfl, h⟩⟩
  · intro j3 hj3 h
    rcases bor (decide (p1 ≤ p0)) with hc1 | hc1
    · have h := h.1 hc1
      refine GoOps.q (v := .int .i64 p0) (want_yes rfl rfl rfl hc1) rfl (by decide) (q_move rfl) ?_
      refine GoOps.q (v := .int .i64 p2) (want_yes rfl rfl rfl hc1) rfl (by decide) (q_move rfl) ?_
      refine GoOps.q (v := .bool (decide (p0 ≤ p2))) (want_yes rfl rfl rfl hc1) rfl (by decide) (q_leq rfl rfl) ?_
      refine GoOps.q (v := .bool (decide (p0 ≤ p2))) rfl rfl (by decide) (q_pickT (btT rfl hc1) rfl) ?_
      exact hj3 (decide (p0 ≤ p2)) _ _ h (by exact rfl)
    · have h := h.2 hc1
      refine no_dst (want_no rfl rfl rfl hc1) rfl (by decide) ?_
      refine no_dst (want_no rfl rfl rfl hc1) rfl (by decide) ?_
      refine no_dst (want_no rfl rfl rfl hc1) rfl (by decide) ?_
      refine GoOps.q (v := .bool false) rfl rfl (by decide) (q_pickF (btF rfl hc1) rfl) ?_
      exact hj3 false _ _ h (by exact rfl)

/-- keelson.victim.Score -/
def victim_Score (p0 : Int) (p1 : Int) (p2 : Int) (H : PH) (Q : Int → PH → Prop) : Prop :=
  victim_within p2 1 1000 H fun y2 H1 =>
  mJoin (fun (s4 : Bool) (H6 : PH) =>
  mJoin (fun (s9 : Bool) (H11 : PH) =>
  mIf s9
  (Q 0 H11)
  (mNe (IntKind.wrap .i64 (p2 + p0)) <|
  Q (IntKind.wrap .i64 (Int.tdiv (IntKind.wrap .i64 ((IntKind.wrap .i64 (p2 - p0)) * p1)) (IntKind.wrap .i64 (p2 + p0)))) H11))
  fun j10 =>
  mIf s4
  (j10 true H6)
  (victim_within p1 0 2147483647 H6 fun y16 H15 =>
  j10 (!y16) H15))
  fun j5 =>
  mIf (!y2)
  (j5 true H1)
  (victim_within p0 0 p2 H1 fun y18 H17 =>
  j5 (!y18) H17)

set_option maxRecDepth 20000 in
set_option maxHeartbeats 1000000 in
theorem victim_Score_s (p0 : Int) (p1 : Int) (p2 : Int) (H : PH) (Q : Int → PH → Prop) (h : victim_Score p0 p1 p2 H Q) :
    CallsH Try.prog 8 #[.int .i64 p0, .int .i64 p1, .int .i64 p2] H (fun v H' => ∃ (r0 : Int), v = .int .i64 r0 ∧ Q r0 H') := by
  unfold victim_Score at h
  refine callsH_of_go Try.func8 rfl Try.ntmps8 (Nat.le_of_ble_eq_true rfl) ?_
  refine Go.seq ?_
  refine Go.region rfl ?_
  refine GoOps.q (v := .int .i64 0) rfl rfl (by decide) (q_assign rfl) ?_
  refine GoOps.nil ?_
  refine Go.seq ?_
  refine Go.seq ?_
  refine Go.region rfl ?_
  refine GoOps.q (v := .int .i64 p2) rfl rfl (by decide) (q_move rfl) ?_
  refine call_dst rfl (by decide) body31 (victim_within_s _ _ _ _ _ h) rfl ?_
  rintro _ H1 ⟨y2, rfl, h⟩
  refine GoOps.q (v := .bool (!y2)) rfl rfl (by decide) (q_not rfl) ?_
  refine GoOps.q (v := .bool (!y2)) rfl rfl (by decide) (q_move rfl) ?_
  refine join_ops 5 (fun ρ (s4 : Bool) => ρ 0 = .int .i64 p0 ∧ ρ 1 = .int .i64 p1 ∧ ρ 2 = .int .i64 p2 ∧ ρ 15 = .bool s4) h ?_ ?_ <;> clear h
  · intro s4 H6 ρ h hE
    obtain ⟨e7_0, e7_1, e7_2, e7_15⟩ := hE
    refine GoOps.q (v := .bool s4) rfl rfl (by decide) (q_move e7_15) ?_
    refine join_ops 4 (fun ρ (s9 : Bool) => ρ 0 = .int .i64 p0 ∧ ρ 1 = .int .i64 p1 ∧ ρ 2 = .int .i64 p2 ∧ ρ 20 = .bool s9) h ?_ ?_ <;> clear h
    · intro s9 H11 ρ h hE
      obtain ⟨e12_0, e12_1, e12_2, e12_20⟩ := hE
      refine GoOps.nil ?_
      rcases bor s9 with hc13 | hc13
      · have h := h.1 hc13
        refine Go.condT (btT e12_20 hc13) ?_
        refine Go.seq ?_
        refine Go.region rfl ?_
        refine GoOps.q (v := .int .i64 0) rfl rfl (by decide) (q_assign rfl) ?_
        refine GoOps.nil ?_
        exact Go.ret ⟨.inl rfl, _, _, DOk.nil, (resOk1 Try.results8 rfl), ⟨_, rfl, h⟩⟩
      · have h := h.2 hc13
        refine Go.condF (btF e12_20 hc13) ?_
        refine Go.skip ?_
        refine Go.seq ?_
        refine Go.region rfl ?_
        refine GoOps.q (v := .int .i64 p2) rfl rfl (by decide) (q_move e12_2) ?_
        refine GoOps.q (v := .int .i64 p0) rfl rfl (by decide) (q_move e12_0) ?_
        refine GoOps.q (v := .int .i64 (IntKind.wrap .i64 (p2 - p0))) rfl rfl (by decide) (q_sub rfl rfl) ?_
        refine GoOps.q (v := .int .i64 p1) rfl rfl (by decide) (q_move e12_1) ?_
        refine GoOps.q (v := .int .i64 (IntKind.wrap .i64 ((IntKind.wrap .i64 (p2 - p0)) * p1))) rfl rfl (by decide) (q_mul rfl rfl) ?_
        refine GoOps.q (v := .int .i64 p2) rfl rfl (by decide) (q_move e12_2) ?_
        refine GoOps.q (v := .int .i64 p0) rfl rfl (by decide) (q_move e12_0) ?_
        refine GoOps.q (v := .int .i64 (IntKind.wrap .i64 (p2 + p0))) rfl rfl (by decide) (q_add rfl rfl) ?_
        obtain ⟨hn14, h⟩ := h
        refine GoOps.q (v := .int .i64 (IntKind.wrap .i64 (Int.tdiv (IntKind.wrap .i64 ((IntKind.wrap .i64 (p2 - p0)) * p1)) (IntKind.wrap .i64 (p2 + p0))))) rfl rfl (by decide) (q_quo hn14 rfl rfl) ?_
        refine GoOps.q (v := .int .i64 (IntKind.wrap .i64 (Int.tdiv (IntKind.wrap .i64 ((IntKind.wrap .i64 (p2 - p0)) * p1)) (IntKind.wrap .i64 (p2 + p0))))) rfl rfl (by decide) (q_assign rfl) ?_
        refine GoOps.nil ?_
        exact Go.ret ⟨.inl rfl, _, _, DOk.nil, (resOk1 Try.results8 rfl), ⟨_, rfl, h⟩⟩
    · intro j10 hj10 h
      rcases bor s4 with hc8 | hc8
      · have h := h.1 hc8
        refine no_dst (want_no rfl rfl rfl hc8) rfl (by decide) ?_
        refine no_dst (want_no rfl rfl rfl hc8) rfl (by decide) ?_
        refine no_dst (want_no rfl rfl rfl hc8) rfl (by decide) ?_
        refine GoOps.q (v := .bool true) rfl rfl (by decide) (q_pickT (btT rfl hc8) rfl) ?_
        exact hj10 true _ _ h (by exact ⟨e7_0, e7_1, e7_2, rfl⟩)
      · have h := h.2 hc8
        refine GoOps.q (v := .int .i64 p1) (want_yes rfl rfl rfl hc8) rfl (by decide) (q_move e7_1) ?_
        refine call_dst (want_yes rfl rfl rfl hc8) (by decide) body31 (victim_within_s _ _ _ _ _ h) rfl ?_
        rintro _ H15 ⟨y16, rfl, h⟩
        refine GoOps.q (v := .bool (!y16)) (want_yes rfl rfl rfl hc8) rfl (by decide) (q_not rfl) ?_
        refine GoOps.q (v := .bool (!y16)) rfl rfl (by decide) (q_pickF (btF rfl hc8) rfl) ?_
        exact hj10 (!y16) _ _ h (by exact ⟨e7_0, e7_1, e7_2, rfl⟩)
  · intro j5 hj5 h
    rcases bor (!y2) with hc3 | hc3
    · have h := h.1 hc3
      refine no_dst (want_no rfl rfl rfl hc3) rfl (by decide) ?_
      refine no_dst (want_no rfl rfl rfl hc3) rfl (by decide) ?_
      refine no_dst (want_no rfl rfl rfl hc3) rfl (by decide) ?_
      refine no_dst (want_no rfl rfl rfl hc3) rfl (by decide) ?_
      refine GoOps.q (v := .bool true) rfl rfl (by decide) (q_pickT (btT rfl hc3) rfl) ?_
      exact hj5 true _ _ h (by exact ⟨rfl, rfl, rfl, rfl⟩)
    · have h := h.2 hc3
      refine GoOps.q (v := .int .i64 p0) (want_yes rfl rfl rfl hc3) rfl (by decide) (q_move rfl) ?_
      refine GoOps.q (v := .int .i64 p2) (want_yes rfl rfl rfl hc3) rfl (by decide) (q_move rfl) ?_
      refine call_dst (want_yes rfl rfl rfl hc3) (by decide) body31 (victim_within_s _ _ _ _ _ h) rfl ?_
      rintro _ H17 ⟨y18, rfl, h⟩
      refine GoOps.q (v := .bool (!y18)) (want_yes rfl rfl rfl hc3) rfl (by decide) (q_not rfl) ?_
      refine GoOps.q (v := .bool (!y18)) rfl rfl (by decide) (q_pickF (btF rfl hc3) rfl) ?_
      exact hj5 (!y18) _ _ h (by exact ⟨rfl, rfl, rfl, rfl⟩)

/-- keelson.keelsonref1.Within -/
def keelsonref1_Within (p0 : Int) (p1 : Int) (p2 : Int) (H : PH) (Q : Bool → PH → Prop) : Prop :=
  mJoin (fun (s2 : Bool) (H4 : PH) =>
  Q s2 H4)
  fun j3 =>
  mIf (decide (p1 ≤ p0))
  (j3 (decide (p0 ≤ p2)) H)
  (j3 false H)

set_option maxRecDepth 20000 in
set_option maxHeartbeats 1000000 in
theorem keelsonref1_Within_s (p0 : Int) (p1 : Int) (p2 : Int) (H : PH) (Q : Bool → PH → Prop) (h : keelsonref1_Within p0 p1 p2 H Q) :
    CallsH Try.prog 32 #[.int .i64 p0, .int .i64 p1, .int .i64 p2] H (fun v H' => ∃ (r0 : Bool), v = .bool r0 ∧ Q r0 H') := by
  unfold keelsonref1_Within at h
  refine callsH_of_go Try.func32 rfl Try.ntmps32 (Nat.le_of_ble_eq_true rfl) ?_
  refine Go.seq ?_
  refine Go.region rfl ?_
  refine GoOps.q (v := .bool false) rfl rfl (by decide) (q_assign rfl) ?_
  refine GoOps.nil ?_
  refine Go.seq ?_
  refine Go.region rfl ?_
  refine GoOps.q (v := .int .i64 p0) rfl rfl (by decide) (q_move rfl) ?_
  refine GoOps.q (v := .int .i64 p1) rfl rfl (by decide) (q_move rfl) ?_
  refine GoOps.q (v := .bool (decide (p1 ≤ p0))) rfl rfl (by decide) (q_geq rfl rfl) ?_
  refine GoOps.q (v := .bool (decide (p1 ≤ p0))) rfl rfl (by decide) (q_move rfl) ?_
  refine join_ops 4 (fun ρ (s2 : Bool) => ρ 14 = .bool s2) h ?_ ?_ <;> clear h
  · intro s2 H4 ρ h hE
    have e5_14 := hE
    refine GoOps.q (v := .bool s2) rfl rfl (by decide) (q_assign e5_14) ?_
    refine GoOps.nil ?_
    exact Go.ret ⟨.inl rfl, _, _, DOk.nil, (resOk1 Try.results32 rfl), ⟨_, rfl, h⟩⟩
  · intro j3 hj3 h
    rcases bor (decide (p1 ≤ p0)) with hc1 | hc1
    · have h := h.1 hc1
      refine GoOps.q (v := .int .i64 p0) (want_yes rfl rfl rfl hc1) rfl (by decide) (q_move rfl) ?_
      refine GoOps.q (v := .int .i64 p2) (want_yes rfl rfl rfl hc1) rfl (by decide) (q_move rfl) ?_
      refine GoOps.q (v := .bool (decide (p0 ≤ p2))) (want_yes rfl rfl rfl hc1) rfl (by decide) (q_leq rfl rfl) ?_
      refine GoOps.q (v := .bool (decide (p0 ≤ p2))) rfl rfl (by decide) (q_pickT (btT rfl hc1) rfl) ?_
      exact hj3 (decide (p0 ≤ p2)) _ _ h (by exact rfl)
    · have h := h.2 hc1
      refine no_dst (want_no rfl rfl rfl hc1) rfl (by decide) ?_
      refine no_dst (want_no rfl rfl rfl hc1) rfl (by decide) ?_
      refine no_dst (want_no rfl rfl rfl hc1) rfl (by decide) ?_
      refine GoOps.q (v := .bool false) rfl rfl (by decide) (q_pickF (btF rfl hc1) rfl) ?_
      exact hj3 false _ _ h (by exact rfl)

/-- keelson.keelsonref11.Score -/
def keelsonref11_Score (p0 : Int) (p1 : Int) (p2 : Int) (H : PH) (Q : Int → PH → Prop) : Prop :=
  keelsonref1_Within p2 1 1000 H fun y2 H1 =>
  mJoin (fun (s4 : Bool) (H6 : PH) =>
  mJoin (fun (s9 : Bool) (H11 : PH) =>
  mIf s9
  (Q 0 H11)
  (mNe (IntKind.wrap .i64 (p2 + p0)) <|
  Q (IntKind.wrap .i64 (Int.tdiv (IntKind.wrap .i64 ((IntKind.wrap .i64 (p2 - p0)) * p1)) (IntKind.wrap .i64 (p2 + p0)))) H11))
  fun j10 =>
  mIf s4
  (j10 true H6)
  (keelsonref1_Within p1 0 2147483647 H6 fun y16 H15 =>
  j10 (!y16) H15))
  fun j5 =>
  mIf (!y2)
  (j5 true H1)
  (keelsonref1_Within p0 0 p2 H1 fun y18 H17 =>
  j5 (!y18) H17)

set_option maxRecDepth 20000 in
set_option maxHeartbeats 1000000 in
theorem keelsonref11_Score_s (p0 : Int) (p1 : Int) (p2 : Int) (H : PH) (Q : Int → PH → Prop) (h : keelsonref11_Score p0 p1 p2 H Q) :
    CallsH Try.prog 9 #[.int .i64 p0, .int .i64 p1, .int .i64 p2] H (fun v H' => ∃ (r0 : Int), v = .int .i64 r0 ∧ Q r0 H') := by
  unfold keelsonref11_Score at h
  refine callsH_of_go Try.func9 rfl Try.ntmps9 (Nat.le_of_ble_eq_true rfl) ?_
  refine Go.seq ?_
  refine Go.region rfl ?_
  refine GoOps.q (v := .int .i64 0) rfl rfl (by decide) (q_assign rfl) ?_
  refine GoOps.nil ?_
  refine Go.seq ?_
  refine Go.seq ?_
  refine Go.region rfl ?_
  refine GoOps.q (v := .int .i64 p2) rfl rfl (by decide) (q_move rfl) ?_
  refine call_dst rfl (by decide) body32 (keelsonref1_Within_s _ _ _ _ _ h) rfl ?_
  rintro _ H1 ⟨y2, rfl, h⟩
  refine GoOps.q (v := .bool (!y2)) rfl rfl (by decide) (q_not rfl) ?_
  refine GoOps.q (v := .bool (!y2)) rfl rfl (by decide) (q_move rfl) ?_
  refine join_ops 5 (fun ρ (s4 : Bool) => ρ 0 = .int .i64 p0 ∧ ρ 1 = .int .i64 p1 ∧ ρ 2 = .int .i64 p2 ∧ ρ 15 = .bool s4) h ?_ ?_ <;> clear h
  · intro s4 H6 ρ h hE
    obtain ⟨e7_0, e7_1, e7_2, e7_15⟩ := hE
    refine GoOps.q (v := .bool s4) rfl rfl (by decide) (q_move e7_15) ?_
    refine join_ops 4 (fun ρ (s9 : Bool) => ρ 0 = .int .i64 p0 ∧ ρ 1 = .int .i64 p1 ∧ ρ 2 = .int .i64 p2 ∧ ρ 20 = .bool s9) h ?_ ?_ <;> clear h
    · intro s9 H11 ρ h hE
      obtain ⟨e12_0, e12_1, e12_2, e12_20⟩ := hE
      refine GoOps.nil ?_
      rcases bor s9 with hc13 | hc13
      · have h := h.1 hc13
        refine Go.condT (btT e12_20 hc13) ?_
        refine Go.seq ?_
        refine Go.region rfl ?_
        refine GoOps.q (v := .int .i64 0) rfl rfl (by decide) (q_assign rfl) ?_
        refine GoOps.nil ?_
        exact Go.ret ⟨.inl rfl, _, _, DOk.nil, (resOk1 Try.results9 rfl), ⟨_, rfl, h⟩⟩
      · have h := h.2 hc13
        refine Go.condF (btF e12_20 hc13) ?_
        refine Go.skip ?_
        refine Go.seq ?_
        refine Go.region rfl ?_
        refine GoOps.q (v := .int .i64 p2) rfl rfl (by decide) (q_move e12_2) ?_
        refine GoOps.q (v := .int .i64 p0) rfl rfl (by decide) (q_move e12_0) ?_
        refine GoOps.q (v := .int .i64 (IntKind.wrap .i64 (p2 - p0))) rfl rfl (by decide) (q_sub rfl rfl) ?_
        refine GoOps.q (v := .int .i64 p1) rfl rfl (by decide) (q_move e12_1) ?_
        refine GoOps.q (v := .int .i64 (IntKind.wrap .i64 ((IntKind.wrap .i64 (p2 - p0)) * p1))) rfl rfl (by decide) (q_mul rfl rfl) ?_
        refine GoOps.q (v := .int .i64 p2) rfl rfl (by decide) (q_move e12_2) ?_
        refine GoOps.q (v := .int .i64 p0) rfl rfl (by decide) (q_move e12_0) ?_
        refine GoOps.q (v := .int .i64 (IntKind.wrap .i64 (p2 + p0))) rfl rfl (by decide) (q_add rfl rfl) ?_
        obtain ⟨hn14, h⟩ := h
        refine GoOps.q (v := .int .i64 (IntKind.wrap .i64 (Int.tdiv (IntKind.wrap .i64 ((IntKind.wrap .i64 (p2 - p0)) * p1)) (IntKind.wrap .i64 (p2 + p0))))) rfl rfl (by decide) (q_quo hn14 rfl rfl) ?_
        refine GoOps.q (v := .int .i64 (IntKind.wrap .i64 (Int.tdiv (IntKind.wrap .i64 ((IntKind.wrap .i64 (p2 - p0)) * p1)) (IntKind.wrap .i64 (p2 + p0))))) rfl rfl (by decide) (q_assign rfl) ?_
        refine GoOps.nil ?_
        exact Go.ret ⟨.inl rfl, _, _, DOk.nil, (resOk1 Try.results9 rfl), ⟨_, rfl, h⟩⟩
    · intro j10 hj10 h
      rcases bor s4 with hc8 | hc8
      · have h := h.1 hc8
        refine no_dst (want_no rfl rfl rfl hc8) rfl (by decide) ?_
        refine no_dst (want_no rfl rfl rfl hc8) rfl (by decide) ?_
        refine no_dst (want_no rfl rfl rfl hc8) rfl (by decide) ?_
        refine GoOps.q (v := .bool true) rfl rfl (by decide) (q_pickT (btT rfl hc8) rfl) ?_
        exact hj10 true _ _ h (by exact ⟨e7_0, e7_1, e7_2, rfl⟩)
      · have h := h.2 hc8
        refine GoOps.q (v := .int .i64 p1) (want_yes rfl rfl rfl hc8) rfl (by decide) (q_move e7_1) ?_
        refine call_dst (want_yes rfl rfl rfl hc8) (by decide) body32 (keelsonref1_Within_s _ _ _ _ _ h) rfl ?_
        rintro _ H15 ⟨y16, rfl, h⟩
        refine GoOps.q (v := .bool (!y16)) (want_yes rfl rfl rfl hc8) rfl (by decide) (q_not rfl) ?_
        refine GoOps.q (v := .bool (!y16)) rfl rfl (by decide) (q_pickF (btF rfl hc8) rfl) ?_
        exact hj10 (!y16) _ _ h (by exact ⟨e7_0, e7_1, e7_2, rfl⟩)
  · intro j5 hj5 h
    rcases bor (!y2) with hc3 | hc3
    · have h := h.1 hc3
      refine no_dst (want_no rfl rfl rfl hc3) rfl (by decide) ?_
      refine no_dst (want_no rfl rfl rfl hc3) rfl (by decide) ?_
      refine no_dst (want_no rfl rfl rfl hc3) rfl (by decide) ?_
      refine no_dst (want_no rfl rfl rfl hc3) rfl (by decide) ?_
      refine GoOps.q (v := .bool true) rfl rfl (by decide) (q_pickT (btT rfl hc3) rfl) ?_
      exact hj5 true _ _ h (by exact ⟨rfl, rfl, rfl, rfl⟩)
    · have h := h.2 hc3
      refine GoOps.q (v := .int .i64 p0) (want_yes rfl rfl rfl hc3) rfl (by decide) (q_move rfl) ?_
      refine GoOps.q (v := .int .i64 p2) (want_yes rfl rfl rfl hc3) rfl (by decide) (q_move rfl) ?_
      refine call_dst (want_yes rfl rfl rfl hc3) (by decide) body32 (keelsonref1_Within_s _ _ _ _ _ h) rfl ?_
      rintro _ H17 ⟨y18, rfl, h⟩
      refine GoOps.q (v := .bool (!y18)) (want_yes rfl rfl rfl hc3) rfl (by decide) (q_not rfl) ?_
      refine GoOps.q (v := .bool (!y18)) rfl rfl (by decide) (q_pickF (btF rfl hc3) rfl) ?_
      exact hj5 (!y18) _ _ h (by exact ⟨rfl, rfl, rfl, rfl⟩)

/-- keelson.geom.within -/
def geom_within (p0 : Int) (p1 : Int) (p2 : Int) (H : PH) (Q : Bool → PH → Prop) : Prop :=
  mJoin (fun (s2 : Bool) (H4 : PH) =>
  Q s2 H4)
  fun j3 =>
  mIf (decide (p1 ≤ p0))
  (j3 (decide (p0 ≤ p2)) H)
  (j3 false H)

set_option maxRecDepth 20000 in
set_option maxHeartbeats 1000000 in
theorem geom_within_s (p0 : Int) (p1 : Int) (p2 : Int) (H : PH) (Q : Bool → PH → Prop) (h : geom_within p0 p1 p2 H Q) :
    CallsH Try.prog 35 #[.int .i64 p0, .int .i64 p1, .int .i64 p2] H (fun v H' => ∃ (r0 : Bool), v = .bool r0 ∧ Q r0 H') := by
  unfold geom_within at h
  refine callsH_of_go Try.func35 rfl Try.ntmps35 (Nat.le_of_ble_eq_true rfl) ?_
  refine Go.seq ?_
  refine Go.region rfl ?_
  refine GoOps.q (v := .bool false) rfl rfl (by decide) (q_assign rfl) ?_
  refine GoOps.nil ?_
  refine Go.seq ?_
  refine Go.region rfl ?_
  refine GoOps.q (v := .int .i64 p0) rfl rfl (by decide) (q_move rfl) ?_
  refine GoOps.q (v := .int .i64 p1) rfl rfl (by decide) (q_move rfl) ?_
  refine GoOps.q (v := .bool (decide (p1 ≤ p0))) rfl rfl (by decide) (q_geq rfl rfl) ?_
  refine GoOps.q (v := .bool (decide (p1 ≤ p0))) rfl rfl (by decide) (q_move rfl) ?_
  refine join_ops 4 (fun ρ (s2 : Bool) => ρ 14 = .bool s2) h ?_ ?_ <;> clear h
  · intro s2 H4 ρ h hE
    have e5_14 := hE
    refine GoOps.q (v := .bool s2) rfl rfl (by decide) (q_assign e5_14) ?_
    refine GoOps.nil ?_
    exact Go.ret ⟨.inl rfl, _, _, DOk.nil, (resOk1 Try.results35 rfl), ⟨_, rfl, h⟩⟩
  · intro j3 hj3 h
    rcases bor (decide (p1 ≤ p0)) with hc1 | hc1
    · have h := h.1 hc1
      refine GoOps.q (v := .int .i64 p0) (want_yes rfl rfl rfl hc1) rfl (by decide) (q_move rfl) ?_
      refine GoOps.q (v := .int .i64 p2) (want_yes rfl rfl rfl hc1) rfl (by decide) (q_move rfl) ?_
      refine GoOps.q (v := .bool (decide (p0 ≤ p2))) (want_yes rfl rfl rfl hc1) rfl (by decide) (q_leq rfl rfl) ?_
      refine GoOps.q (v := .bool (decide (p0 ≤ p2))) rfl rfl (by decide) (q_pickT (btT rfl hc1) rfl) ?_
      exact hj3 (decide (p0 ≤ p2)) _ _ h (by exact rfl)
    · have h := h.2 hc1
      refine no_dst (want_no rfl rfl rfl hc1) rfl (by decide) ?_
      refine no_dst (want_no rfl rfl rfl hc1) rfl (by decide) ?_
      refine no_dst (want_no rfl rfl rfl hc1) rfl (by decide) ?_
      refine GoOps.q (v := .bool false) rfl rfl (by decide) (q_pickF (btF rfl hc1) rfl) ?_
      exact hj3 false _ _ h (by exact rfl)

/-- keelson.geom.New -/
def geom_New (p0 : (Int × Int × Int)) (H : PH) (Q : Option Addr → Int → PH → Prop) : Prop :=
  mNew H (row [.int .i64 p0.1, .int .i64 p0.2.1, .int .i64 p0.2.2] 32) fun a1 H2 =>
  mLd (.int .i64) H2 (a1.add 0) fun x4 =>
  geom_within x4 1 64 H2 fun y7 H6 =>
  mJoin (fun (s9 : Bool) (H11 : PH) =>
  mJoin (fun (s14 : Bool) (H16 : PH) =>
  mIf s14
  (Q none 1 H16)
  (mLdR (fun (x : (Int × Int × Int)) => [.int .i64 x.1, .int .i64 x.2.1, .int .i64 x.2.2]) H16 a1 3 fun x19 =>
  mNew H16 (row [.int .i64 x19.1, .int .i64 x19.2.1, .int .i64 x19.2.2] 59) fun a21 H22 =>
  Q (some a21) 0 H22))
  fun j15 =>
  mIf s9
  (j15 true H11)
  (mLd (.int .i64) H11 (a1.add 2) fun x24 =>
  geom_within x24 24 64 H11 fun y27 H26 =>
  j15 (!y27) H26))
  fun j10 =>
  mIf (!y7)
  (j10 true H6)
  (mLd (.int .i64) H6 (a1.add 1) fun x28 =>
  geom_within x28 8 32 H6 fun y31 H30 =>
  j10 (!y31) H30)

set_option maxRecDepth 20000 in
set_option maxHeartbeats 1000000 in
theorem geom_New_s (p0 : (Int × Int × Int)) (H : PH) (Q : Option Addr → Int → PH → Prop) (h : geom_New p0 H Q) :
    CallsH Try.prog 15 #[.agg ([.int .i64 p0.1, .int .i64 p0.2.1, .int .i64 p0.2.2] : List Value).toArray] H (fun v H' => ∃ (r0 : Option Addr) (r1 : Int), v = .tuple #[.pointer r0, .int .i64 r1] ∧ Q r0 r1 H') := by
  unfold geom_New at h
  refine callsH_of_go Try.func15 rfl Try.ntmps15 (Nat.le_of_ble_eq_true rfl) ?_
  refine Go.seq ?_
  refine Go.region rfl ?_
  refine op_dst rfl rfl (by decide) (do_newBox (cs := [.int .i64 p0.1, .int .i64 p0.2.1, .int .i64 p0.2.2]) rfl rfl fun a1 H2 hb3 => ?_) 
  have h := h a1 H2 hb3
  refine GoOps.q (v := .pointer none) rfl rfl (by decide) (q_assign rfl) ?_
  refine GoOps.q (v := .int .i64 0) rfl rfl (by decide) (q_assign rfl) ?_
  refine GoOps.nil ?_
  refine Go.seq ?_
  refine Go.seq ?_
  refine Go.region rfl ?_
  refine GoOps.q (v := .pointer (some (a1.add 0))) rfl rfl (by decide) (q_fieldAddr foff32_0 rfl) ?_
  obtain ⟨x4, hx5, h⟩ := h
  refine GoOps.q (v := .int .i64 x4) rfl rfl (by decide) (q_load scalar3 rfl hx5) ?_
  refine call_dst rfl (by decide) body35 (geom_within_s _ _ _ _ _ h) rfl ?_
  rintro _ H6 ⟨y7, rfl, h⟩
  refine GoOps.q (v := .bool (!y7)) rfl rfl (by decide) (q_not rfl) ?_
  refine GoOps.q (v := .bool (!y7)) rfl rfl (by decide) (q_move rfl) ?_
  refine join_ops 5 (fun ρ (s9 : Bool) => ρ 1 = .pointer (some a1) ∧ ρ 13 = .bool s9) h ?_ ?_ <;> clear h
  · intro s9 H11 ρ h hE
    obtain ⟨e12_1, e12_13⟩ := hE
    refine GoOps.q (v := .bool s9) rfl rfl (by decide) (q_move e12_13) ?_
    refine join_ops 5 (fun ρ (s14 : Bool) => ρ 1 = .pointer (some a1) ∧ ρ 19 = .bool s14) h ?_ ?_ <;> clear h
    · intro s14 H16 ρ h hE
      obtain ⟨e17_1, e17_19⟩ := hE
      refine GoOps.nil ?_
      rcases bor s14 with hc18 | hc18
      · have h := h.1 hc18
        refine Go.condT (btT e17_19 hc18) ?_
        refine Go.seq ?_
        refine Go.region rfl ?_
        refine GoOps.q (v := .pointer none) rfl rfl (by decide) (q_assign rfl) ?_
        refine GoOps.q (v := .int .i64 1) rfl rfl (by decide) (q_assign rfl) ?_
        refine GoOps.nil ?_
        exact Go.ret ⟨.inl rfl, _, _, DOk.nil, (resOk2 Try.results15 rfl rfl), ⟨_, _, rfl, h⟩⟩
      · have h := h.2 hc18
        refine Go.condF (btF e17_19 hc18) ?_
        refine Go.skip ?_
        refine Go.seq ?_
        refine Go.region rfl ?_
        obtain ⟨x19, hx20, h⟩ := h
        refine GoOps.q (v := .agg ([.int .i64 x19.1, .int .i64 x19.2.1, .int .i64 x19.2.2] : List Value).toArray) rfl rfl (by decide) (q_loadA aggr32 e17_1 hx20) ?_
        refine GoOps.q (v := .agg ([.int .i64 x19.1, .int .i64 x19.2.1, .int .i64 x19.2.2] : List Value).toArray) rfl rfl (by decide) (q_build (ps := [(0, .agg ([.int .i64 x19.1, .int .i64 x19.2.1, .int .i64 x19.2.2] : List Value).toArray)]) (cs := [.int .i64 x19.1, .int .i64 x19.2.1, .int .i64 x19.2.2]) places59 zero59 rfl rfl rfl) ?_
        refine op_dst rfl rfl (by decide) (do_newBox (cs := [.int .i64 x19.1, .int .i64 x19.2.1, .int .i64 x19.2.2]) rfl rfl fun a21 H22 hb23 => ?_) 
        have h := h a21 H22 hb23
        refine GoOps.q (v := .pointer (some a21)) rfl rfl (by decide) (q_assign rfl) ?_
        refine GoOps.q (v := .int .i64 0) rfl rfl (by decide) (q_assign rfl) ?_
        refine GoOps.nil ?_
        exact Go.ret ⟨.inl rfl, _, _, DOk.nil, (resOk2 Try.results15 rfl rfl), ⟨_, _, rfl, h⟩⟩
    · intro j15 hj15 h
      rcases bor s9 with hc13 | hc13
      · have h := h.1 hc13
        refine no_dst (want_no rfl rfl rfl hc13) rfl (by decide) ?_
        refine no_dst (want_no rfl rfl rfl hc13) rfl (by decide) ?_
        refine no_dst (want_no rfl rfl rfl hc13) rfl (by decide) ?_
        refine no_dst (want_no rfl rfl rfl hc13) rfl (by decide) ?_
        refine GoOps.q (v := .bool true) rfl rfl (by decide) (q_pickT (btT rfl hc13) rfl) ?_
        exact hj15 true _ _ h (by exact ⟨e12_1, rfl⟩)
      · have h := h.2 hc13
        refine GoOps.q (v := .pointer (some (a1.add 2))) (want_yes rfl rfl rfl hc13) rfl (by decide) (q_fieldAddr foff32_2 e12_1) ?_
        obtain ⟨x24, hx25, h⟩ := h
        refine GoOps.q (v := .int .i64 x24) (want_yes rfl rfl rfl hc13) rfl (by decide) (q_load scalar3 rfl hx25) ?_
        refine call_dst (want_yes rfl rfl rfl hc13) (by decide) body35 (geom_within_s _ _ _ _ _ h) rfl ?_
        rintro _ H26 ⟨y27, rfl, h⟩
        refine GoOps.q (v := .bool (!y27)) (want_yes rfl rfl rfl hc13) rfl (by decide) (q_not rfl) ?_
        refine GoOps.q (v := .bool (!y27)) rfl rfl (by decide) (q_pickF (btF rfl hc13) rfl) ?_
        exact hj15 (!y27) _ _ h (by exact ⟨e12_1, rfl⟩)
  · intro j10 hj10 h
    rcases bor (!y7) with hc8 | hc8
    · have h := h.1 hc8
      refine no_dst (want_no rfl rfl rfl hc8) rfl (by decide) ?_
      refine no_dst (want_no rfl rfl rfl hc8) rfl (by decide) ?_
      refine no_dst (want_no rfl rfl rfl hc8) rfl (by decide) ?_
      refine no_dst (want_no rfl rfl rfl hc8) rfl (by decide) ?_
      refine GoOps.q (v := .bool true) rfl rfl (by decide) (q_pickT (btT rfl hc8) rfl) ?_
      exact hj10 true _ _ h (by exact ⟨rfl, rfl⟩)
    · have h := h.2 hc8
      refine GoOps.q (v := .pointer (some (a1.add 1))) (want_yes rfl rfl rfl hc8) rfl (by decide) (q_fieldAddr foff32_1 rfl) ?_
      obtain ⟨x28, hx29, h⟩ := h
      refine GoOps.q (v := .int .i64 x28) (want_yes rfl rfl rfl hc8) rfl (by decide) (q_load scalar3 rfl hx29) ?_
      refine call_dst (want_yes rfl rfl rfl hc8) (by decide) body35 (geom_within_s _ _ _ _ _ h) rfl ?_
      rintro _ H30 ⟨y31, rfl, h⟩
      refine GoOps.q (v := .bool (!y31)) (want_yes rfl rfl rfl hc8) rfl (by decide) (q_not rfl) ?_
      refine GoOps.q (v := .bool (!y31)) rfl rfl (by decide) (q_pickF (btF rfl hc8) rfl) ?_
      exact hj10 (!y31) _ _ h (by exact ⟨rfl, rfl⟩)

/-- (*keelson.geom.Geom).Config -/
def geom_Geom_Config (p0 : Option Addr) (H : PH) (Q : (Int × Int × Int) → PH → Prop) : Prop :=
  mNew H (row [.int .i64 0, .int .i64 0, .int .i64 0] 32) fun a1 H2 =>
  mIf (Option.isNone p0)
  (mSt H2 a1 ([.int .i64 0, .int .i64 0, .int .i64 0]) fun H5 =>
  mLdR (fun (x : (Int × Int × Int)) => [.int .i64 x.1, .int .i64 x.2.1, .int .i64 x.2.2]) H5 a1 3 fun x7 =>
  Q (x7.1, x7.2.1, x7.2.2) H5)
  (mNil p0 fun a9 =>
  mLdR (fun (x : (Int × Int × Int)) => [.int .i64 x.1, .int .i64 x.2.1, .int .i64 x.2.2]) H2 (a9.add 0) 3 fun x11 =>
  mSt H2 a1 ([.int .i64 x11.1, .int .i64 x11.2.1, .int .i64 x11.2.2]) fun H13 =>
  mLdR (fun (x : (Int × Int × Int)) => [.int .i64 x.1, .int .i64 x.2.1, .int .i64 x.2.2]) H13 a1 3 fun x15 =>
  Q (x15.1, x15.2.1, x15.2.2) H13)

set_option maxRecDepth 20000 in
set_option maxHeartbeats 1000000 in
theorem geom_Geom_Config_s (p0 : Option Addr) (H : PH) (Q : (Int × Int × Int) → PH → Prop) (h : geom_Geom_Config p0 H Q) :
    CallsH Try.prog 36 #[.pointer p0] H (fun v H' => ∃ (r0 : (Int × Int × Int)), v = .agg ([.int .i64 r0.1, .int .i64 r0.2.1, .int .i64 r0.2.2] : List Value).toArray ∧ Q r0 H') := by
  unfold geom_Geom_Config at h
  refine callsH_of_go Try.func36 rfl Try.ntmps36 (Nat.le_of_ble_eq_true rfl) ?_
  refine Go.seq ?_
  refine Go.region rfl ?_
  refine op_dst rfl rfl (by decide) (do_new zero32 rfl fun a1 H2 hb3 => ?_) 
  have h := h a1 H2 hb3
  refine GoOps.nil ?_
  refine Go.seq ?_
  refine Go.seq ?_
  refine Go.region rfl ?_
  refine GoOps.q (v := .pointer p0) rfl rfl (by decide) (q_move rfl) ?_
  refine GoOps.q (v := .bool (Option.isNone p0)) rfl rfl (by decide) (q_eqlPn Try.underlying34 rfl rfl) ?_
  refine GoOps.nil ?_
  rcases bor (Option.isNone p0) with hc4 | hc4
  · have h := h.1 hc4
    refine Go.condT (btT rfl hc4) ?_
    refine Go.seq ?_
    refine Go.region rfl ?_
    refine GoOps.q (v := .agg ([.int .i64 0, .int .i64 0, .int .i64 0] : List Value).toArray) rfl rfl (by decide) (q_build (ps := []) (cs := [.int .i64 0, .int .i64 0, .int .i64 0]) places32 zero32 rfl rfl rfl) ?_
    obtain ⟨q6b, q6o, q6c, q6e, hq6a, hq6b, hq6l, hq6v, h⟩ := h
    refine op_none rfl rfl (do_store (vs := [.int .i64 0, .int .i64 0, .int .i64 0]) size32 (pta rfl hq6a) rfl rfl rfl hq6v hq6b hq6l ?_) 
    refine GoOps.nil ?_
    obtain ⟨x7, hx8, h⟩ := h
    exact Go.ret ⟨.inl rfl, _, _, DOk.nil, (resOkV1 Try.results36 (rv_cellA aggr32 rfl hx8)), ⟨_, rfl, h⟩⟩
  · have h := h.2 hc4
    refine Go.condF (btF rfl hc4) ?_
    refine Go.skip ?_
    refine Go.seq ?_
    refine Go.region rfl ?_
    refine GoOps.q (v := .pointer p0) rfl rfl (by decide) (q_move rfl) ?_
    obtain ⟨a9, ha10, h⟩ := h
    refine GoOps.q (v := .pointer (some a9)) rfl rfl (by decide) (q_nilCheck (ptn rfl ha10)) ?_
    refine GoOps.q (v := .pointer (some (a9.add 0))) rfl rfl (by decide) (q_fieldAddr foff59_0 rfl) ?_
    obtain ⟨x11, hx12, h⟩ := h
    refine GoOps.q (v := .agg ([.int .i64 x11.1, .int .i64 x11.2.1, .int .i64 x11.2.2] : List Value).toArray) rfl rfl (by decide) (q_loadA aggr32 rfl hx12) ?_
    obtain ⟨q14b, q14o, q14c, q14e, hq14a, hq14b, hq14l, hq14v, h⟩ := h
    refine op_none rfl rfl (do_store (vs := [.int .i64 x11.1, .int .i64 x11.2.1, .int .i64 x11.2.2]) size32 (pta rfl hq14a) rfl rfl rfl hq14v hq14b hq14l ?_) 
    refine GoOps.nil ?_
    obtain ⟨x15, hx16, h⟩ := h
    exact Go.ret ⟨.inl rfl, _, _, DOk.nil, (resOkV1 Try.results36 (rv_cellA aggr32 rfl hx16)), ⟨_, rfl, h⟩⟩

/-- keelson.usage.New -/
def usage_New (p0 : Option Addr) (p1 : Sl) (H : PH) (Q : Option Addr → PH → Prop) : Prop :=
  geom_Geom_Config p0 H fun y2 H1 =>
  mJoin (fun (s4 : Bool) (H6 : PH) =>
  mIf s4
  (Q none H6)
  (mLoop (fun (s9 : Int) (H12 : PH) (again10 : Int → PH → Prop) =>
  mIf (decide (s9 < (p1.len : Int)))
  (mIdx p1 2 s9 fun a14 =>
  mLdR (fun (x : (Int × Int)) => [.int .i64 x.1, .int .i64 x.2]) H12 a14 2 fun x16 =>
  mNew H12 (row [.int .i64 0, .int .i64 0] 40) fun a18 H19 =>
  mSt H19 a18 ([.int .i64 x16.1, .int .i64 x16.2]) fun H21 =>
  mLd (.int .i64) H21 (a18.add 0) fun x23 =>
  mJoin (fun (s26 : Bool) (H28 : PH) =>
  mJoin (fun (s31 : Bool) (H33 : PH) =>
  mJoin (fun (s36 : Bool) (H38 : PH) =>
  mIf s36
  (Q none H38)
  (again10 (IntKind.wrap .i64 (s9 + 1)) H38))
  fun j37 =>
  mIf s31
  (j37 true H33)
  (mLd (.int .i64) H33 (a18.add 1) fun x41 =>
  j37 (decide (2147483647 < x41)) H33))
  fun j32 =>
  mIf s26
  (j32 true H28)
  (mLd (.int .i64) H28 (a18.add 1) fun x43 =>
  j32 (decide (x43 < 0)) H28))
  fun j27 =>
  mIf (decide (x23 < 0))
  (j27 true H21)
  (mLd (.int .i64) H21 (a18.add 0) fun x45 =>
  j27 (decide (2 < x45)) H21))
  (mJoin (fun (s47 : Option Addr) (H49 : PH) =>
  mNil s47 fun a51 =>
  mLd Sl.v H49 (a51.add 1) fun x53 =>
  mCopy H49 2 x53 p1 fun x55 H56 =>
  Q s47 H56)
  fun j48 =>
  mBoth (MkOk 16 y2.2.1 y2.2.1) <|
  mBoth (MkOk 8 y2.2.1 y2.2.1) <|
  mNewSI H12 (row (zeros (y2.2.1 : Int).toNat [.int .i64 0, .int .i64 0]) 40) y2.2.1 y2.2.1 fun r59 H60 =>
  mNewSI H60 (row (zeros (y2.2.1 : Int).toNat [.int .i64 0]) 3) y2.2.1 y2.2.1 fun r62 H63 =>
  mNew H63 (row [.pointer p0, Sl.v r59, Sl.v r62] 62) fun a65 H66 =>
  j48 (some a65) H66))
  0 H6))
  fun j5 =>
  mIf (Option.isNone p0)
  (j5 true H1)
  (mJoin (fun (s79 : Bool) (H81 : PH) =>
  j5 s79 H81)
  fun j80 =>
  mIf ((p1.len : Int) != 0)
  (j80 ((p1.len : Int) != y2.2.1) H1)
  (j80 false H1))

set_option maxRecDepth 20000 in
set_option maxHeartbeats 1000000 in
theorem usage_New_s (p0 : Option Addr) (p1 : Sl) (H : PH) (Q : Option Addr → PH → Prop) (h : usage_New p0 p1 H Q) :
    CallsH Try.prog 16 #[.pointer p0, Sl.v p1] H (fun v H' => ∃ (r0 : Option Addr), v = .pointer r0 ∧ Q r0 H') := by
  unfold usage_New at h
  refine callsH_of_go Try.func16 rfl Try.ntmps16 (Nat.le_of_ble_eq_true rfl) ?_
  refine Go.seq ?_
  refine Go.region rfl ?_
  refine GoOps.q (v := .pointer none) rfl rfl (by decide) (q_assign rfl) ?_
  refine GoOps.nil ?_
  refine Go.seq ?_
  refine Go.region rfl ?_
  refine GoOps.q (v := .pointer p0) rfl rfl (by decide) (q_move rfl) ?_
  refine call_dst rfl (by decide) body36 (geom_Geom_Config_s _ _ _ h) rfl ?_
  rintro _ H1 ⟨y2, rfl, h⟩
  refine GoOps.q (v := .int .i64 y2.2.1) rfl rfl (by decide) (q_field fis32_1 scalar3 rfl rfl) ?_
  refine GoOps.q (v := .int .i64 y2.2.1) rfl rfl (by decide) (q_assign rfl) ?_
  refine GoOps.nil ?_
  refine Go.seq ?_
  refine Go.seq ?_
  refine Go.region rfl ?_
  refine GoOps.q (v := .pointer p0) rfl rfl (by decide) (q_move rfl) ?_
  refine GoOps.q (v := .bool (Option.isNone p0)) rfl rfl (by decide) (q_eqlPn Try.underlying34 rfl rfl) ?_
  refine GoOps.q (v := .bool (Option.isNone p0)) rfl rfl (by decide) (q_move rfl) ?_
  refine join_ops 10 (fun ρ (s4 : Bool) => ρ 0 = .pointer p0 ∧ ρ 1 = Sl.v p1 ∧ ρ 5 = .int .i64 y2.2.1 ∧ ρ 24 = .bool s4) h ?_ ?_ <;> clear h
  · intro s4 H6 ρ h hE
    obtain ⟨e7_0, e7_1, e7_5, e7_24⟩ := hE
    refine GoOps.nil ?_
    rcases bor s4 with hc8 | hc8
    · have h := h.1 hc8
      refine Go.condT (btT e7_24 hc8) ?_
      refine Go.seq ?_
      refine Go.region rfl ?_
      refine GoOps.q (v := .pointer none) rfl rfl (by decide) (q_assign rfl) ?_
      refine GoOps.nil ?_
      exact Go.ret ⟨.inl rfl, _, _, DOk.nil, (resOk1 Try.results16 rfl), ⟨_, rfl, h⟩⟩
    · have h := h.2 hc8
      refine Go.condF (btF e7_24 hc8) ?_
      refine Go.skip ?_
      refine Go.seq ?_
      refine Go.seq ?_
      refine Go.region rfl ?_
      refine GoOps.q (v := Sl.v p1) rfl rfl (by decide) (q_move e7_1) ?_
      refine GoOps.q (v := .int .i64 (p1.len : Int)) rfl rfl (by decide) (q_len Try.underlying38 rfl (ls1 rfl)) ?_
      refine GoOps.q (v := .int .i64 0) rfl rfl (by decide) (q_move rfl) ?_
      refine GoOps.nil ?_
      refine Go.block ?_
      refine loop_go (fun ρ (s9 : Int) => ρ 0 = .pointer p0 ∧ ρ 1 = Sl.v p1 ∧ ρ 5 = .int .i64 y2.2.1 ∧ ρ 25 = Sl.v p1 ∧ ρ 26 = .int .i64 (p1.len : Int) ∧ ρ 27 = .int .i64 s9) h ⟨e7_0, e7_1, e7_5, rfl, rfl, rfl⟩ ?_
      clear h
      intro ρ s9 H12 again10 hE h hagain10
      obtain ⟨e11_0, e11_1, e11_5, e11_25, e11_26, e11_27⟩ := hE
      refine Go.seq ?_
      refine Go.region rfl ?_
      refine GoOps.q (v := .bool (decide (s9 < (p1.len : Int)))) rfl rfl (by decide) (q_lss e11_27 e11_26) ?_
      refine GoOps.nil ?_
      refine Go.seq ?_
      rcases bor (decide (s9 < (p1.len : Int))) with hc13 | hc13
      · have h := h.1 hc13
        refine Go.condT (btT rfl hc13) ?_
        refine Go.skip ?_
        refine Go.seq ?_
        refine Go.block ?_
        refine Go.seq ?_
        refine Go.region rfl ?_
        obtain ⟨a14, ha15, h⟩ := h
        refine GoOps.q (v := .pointer (some a14)) rfl rfl (by decide) (q_idx slice38 ha15 e11_25 e11_27) ?_
        obtain ⟨x16, hx17, h⟩ := h
        refine GoOps.q (v := .agg ([.int .i64 x16.1, .int .i64 x16.2] : List Value).toArray) rfl rfl (by decide) (q_loadA aggr40 rfl hx17) ?_
        refine op_dst rfl rfl (by decide) (do_new zero40 rfl fun a18 H19 hb20 => ?_) 
        have h := h a18 H19 hb20
        obtain ⟨q22b, q22o, q22c, q22e, hq22a, hq22b, hq22l, hq22v, h⟩ := h
        refine op_none rfl rfl (do_store (vs := [.int .i64 x16.1, .int .i64 x16.2]) size40 (pta rfl hq22a) rfl rfl rfl hq22v hq22b hq22l ?_) 
        refine GoOps.nil ?_
        refine Go.seq ?_
        refine Go.region rfl ?_
        refine GoOps.q (v := .pointer (some (a18.add 0))) rfl rfl (by decide) (q_fieldAddr foff40_0 rfl) ?_
        obtain ⟨x23, hx24, h⟩ := h
        refine GoOps.q (v := .int .i64 x23) rfl rfl (by decide) (q_load scalar3 rfl hx24) ?_
        refine GoOps.q (v := .bool (decide (x23 < 0))) rfl rfl (by decide) (q_lss rfl rfl) ?_
        refine GoOps.q (v := .bool (decide (x23 < 0))) rfl rfl (by decide) (q_move rfl) ?_
        refine join_ops 4 (fun ρ (s26 : Bool) => ρ 0 = .pointer p0 ∧ ρ 1 = Sl.v p1 ∧ ρ 5 = .int .i64 y2.2.1 ∧ ρ 7 = .pointer (some a18) ∧ ρ 25 = Sl.v p1 ∧ ρ 26 = .int .i64 (p1.len : Int) ∧ ρ 27 = .int .i64 s9 ∧ ρ 38 = .bool s26) h ?_ ?_ <;> clear h
        · intro s26 H28 ρ h hE
          obtain ⟨e29_0, e29_1, e29_5, e29_7, e29_25, e29_26, e29_27, e29_38⟩ := hE
          refine GoOps.q (v := .bool s26) rfl rfl (by decide) (q_move e29_38) ?_
          refine join_ops 4 (fun ρ (s31 : Bool) => ρ 0 = .pointer p0 ∧ ρ 1 = Sl.v p1 ∧ ρ 5 = .int .i64 y2.2.1 ∧ ρ 7 = .pointer (some a18) ∧ ρ 25 = Sl.v p1 ∧ ρ 26 = .int .i64 (p1.len : Int) ∧ ρ 27 = .int .i64 s9 ∧ ρ 43 = .bool s31) h ?_ ?_ <;> clear h
          · intro s31 H33 ρ h hE
            obtain ⟨e34_0, e34_1, e34_5, e34_7, e34_25, e34_26, e34_27, e34_43⟩ := hE
            refine GoOps.q (v := .bool s31) rfl rfl (by decide) (q_move e34_43) ?_
            refine join_ops 4 (fun ρ (s36 : Bool) => ρ 0 = .pointer p0 ∧ ρ 1 = Sl.v p1 ∧ ρ 5 = .int .i64 y2.2.1 ∧ ρ 25 = Sl.v p1 ∧ ρ 26 = .int .i64 (p1.len : Int) ∧ ρ 27 = .int .i64 s9 ∧ ρ 48 = .bool s36) h ?_ ?_ <;> clear h
            · intro s36 H38 ρ h hE
              obtain ⟨e39_0, e39_1, e39_5, e39_25, e39_26, e39_27, e39_48⟩ := hE
              refine GoOps.nil ?_
              rcases bor s36 with hc40 | hc40
              · have h := h.1 hc40
                refine Go.condT (btT e39_48 hc40) ?_
                refine Go.seq ?_
                refine Go.region rfl ?_
                refine GoOps.q (v := .pointer none) rfl rfl (by decide) (q_assign rfl) ?_
                refine GoOps.nil ?_
                exact Go.ret ⟨.inl rfl, _, _, DOk.nil, (resOk1 Try.results16 rfl), ⟨_, rfl, h⟩⟩
              · have h := h.2 hc40
                refine Go.condF (btF e39_48 hc40) ?_
                refine Go.skip ?_
                refine Go.inBlock ?_
                refine Go.region rfl ?_
                refine GoOps.q (v := .int .i64 (IntKind.wrap .i64 (s9 + 1))) rfl rfl (by decide) (q_add e39_27 rfl) ?_
                refine GoOps.q (v := .int .i64 (IntKind.wrap .i64 (s9 + 1))) rfl rfl (by decide) (q_move rfl) ?_
                refine GoOps.nil ?_
                exact hagain10 _ _ _ h ⟨e39_0, e39_1, e39_5, e39_25, e39_26, rfl⟩
            · intro j37 hj37 h
              rcases bor s31 with hc35 | hc35
              · have h := h.1 hc35
                refine no_dst (want_no rfl rfl rfl hc35) rfl (by decide) ?_
                refine no_dst (want_no rfl rfl rfl hc35) rfl (by decide) ?_
                refine no_dst (want_no rfl rfl rfl hc35) rfl (by decide) ?_
                refine GoOps.q (v := .bool true) rfl rfl (by decide) (q_pickT (btT rfl hc35) rfl) ?_
                exact hj37 true _ _ h (by exact ⟨e34_0, e34_1, e34_5, e34_25, e34_26, e34_27, rfl⟩)
              · have h := h.2 hc35
                refine GoOps.q (v := .pointer (some (a18.add 1))) (want_yes rfl rfl rfl hc35) rfl (by decide) (q_fieldAddr foff40_1 e34_7) ?_
                obtain ⟨x41, hx42, h⟩ := h
                refine GoOps.q (v := .int .i64 x41) (want_yes rfl rfl rfl hc35) rfl (by decide) (q_load scalar3 rfl hx42) ?_
                refine GoOps.q (v := .bool (decide (2147483647 < x41))) (want_yes rfl rfl rfl hc35) rfl (by decide) (q_gtr rfl rfl) ?_
                refine GoOps.q (v := .bool (decide (2147483647 < x41))) rfl rfl (by decide) (q_pickF (btF rfl hc35) rfl) ?_
                exact hj37 (decide (2147483647 < x41)) _ _ h (by exact ⟨e34_0, e34_1, e34_5, e34_25, e34_26, e34_27, rfl⟩)
          · intro j32 hj32 h
            rcases bor s26 with hc30 | hc30
            · have h := h.1 hc30
              refine no_dst (want_no rfl rfl rfl hc30) rfl (by decide) ?_
              refine no_dst (want_no rfl rfl rfl hc30) rfl (by decide) ?_
              refine no_dst (want_no rfl rfl rfl hc30) rfl (by decide) ?_
              refine GoOps.q (v := .bool true) rfl rfl (by decide) (q_pickT (btT rfl hc30) rfl) ?_
              exact hj32 true _ _ h (by exact ⟨e29_0, e29_1, e29_5, e29_7, e29_25, e29_26, e29_27, rfl⟩)
            · have h := h.2 hc30
              refine GoOps.q (v := .pointer (some (a18.add 1))) (want_yes rfl rfl rfl hc30) rfl (by decide) (q_fieldAddr foff40_1 e29_7) ?_
              obtain ⟨x43, hx44, h⟩ := h
              refine GoOps.q (v := .int .i64 x43) (want_yes rfl rfl rfl hc30) rfl (by decide) (q_load scalar3 rfl hx44) ?_
              refine GoOps.q (v := .bool (decide (x43 < 0))) (want_yes rfl rfl rfl hc30) rfl (by decide) (q_lss rfl rfl) ?_
              refine GoOps.q (v := .bool (decide (x43 < 0))) rfl rfl (by decide) (q_pickF (btF rfl hc30) rfl) ?_
              exact hj32 (decide (x43 < 0)) _ _ h (by exact ⟨e29_0, e29_1, e29_5, e29_7, e29_25, e29_26, e29_27, rfl⟩)
        · intro j27 hj27 h
          rcases bor (decide (x23 < 0)) with hc25 | hc25
          · have h := h.1 hc25
            refine no_dst (want_no rfl rfl rfl hc25) rfl (by decide) ?_
            refine no_dst (want_no rfl rfl rfl hc25) rfl (by decide) ?_
            refine no_dst (want_no rfl rfl rfl hc25) rfl (by decide) ?_
            refine GoOps.q (v := .bool true) rfl rfl (by decide) (q_pickT (btT rfl hc25) rfl) ?_
            exact hj27 true _ _ h (by exact ⟨e11_0, e11_1, e11_5, rfl, e11_25, e11_26, e11_27, rfl⟩)
          · have h := h.2 hc25
            refine GoOps.q (v := .pointer (some (a18.add 0))) (want_yes rfl rfl rfl hc25) rfl (by decide) (q_fieldAddr foff40_0 rfl) ?_
            obtain ⟨x45, hx46, h⟩ := h
            refine GoOps.q (v := .int .i64 x45) (want_yes rfl rfl rfl hc25) rfl (by decide) (q_load scalar3 rfl hx46) ?_
            refine GoOps.q (v := .bool (decide (2 < x45))) (want_yes rfl rfl rfl hc25) rfl (by decide) (q_gtr rfl rfl) ?_
            refine GoOps.q (v := .bool (decide (2 < x45))) rfl rfl (by decide) (q_pickF (btF rfl hc25) rfl) ?_
            exact hj27 (decide (2 < x45)) _ _ h (by exact ⟨e11_0, e11_1, e11_5, rfl, e11_25, e11_26, e11_27, rfl⟩)
      · have h := h.2 hc13
        refine Go.condF (btF rfl hc13) ?_
        refine Go.exit rfl ?_
        refine Go.seq ?_
        refine join_go 1 (fun ρ (s47 : Option Addr) => ρ 1 = Sl.v p1 ∧ ρ 8 = .pointer s47) h ?_ ?_ <;> clear h
        · intro s47 H49 ρ h hE
          obtain ⟨e50_1, e50_8⟩ := hE
          refine Go.seq ?_
          refine Go.region rfl ?_
          refine GoOps.q (v := .pointer s47) rfl rfl (by decide) (q_move e50_8) ?_
          obtain ⟨a51, ha52, h⟩ := h
          refine GoOps.q (v := .pointer (some a51)) rfl rfl (by decide) (q_nilCheck (ptn rfl ha52)) ?_
          refine GoOps.q (v := .pointer (some (a51.add 1))) rfl rfl (by decide) (q_fieldAddr foff62_1 rfl) ?_
          obtain ⟨x53, hx54, h⟩ := h
          refine GoOps.q (v := Sl.v x53) rfl rfl (by decide) (q_load scalar38 rfl hx54) ?_
          refine GoOps.q (v := Sl.v p1) rfl rfl (by decide) (q_move e50_1) ?_
          refine op_dst rfl rfl (by decide) (do_copy slice38 rfl rfl h fun x55 H56 h => ?_) 
          refine GoOps.nil ?_
          refine Go.seq ?_
          refine Go.region rfl ?_
          refine GoOps.q (v := .pointer s47) rfl rfl (by decide) (q_move e50_8) ?_
          refine GoOps.q (v := .pointer s47) rfl rfl (by decide) (q_assign rfl) ?_
          refine GoOps.nil ?_
          exact Go.ret ⟨.inl rfl, _, _, DOk.nil, (resOk1 Try.results16 rfl), ⟨_, rfl, h⟩⟩
        · intro j48 hj48 h
          refine Go.draw mixed ?_
          refine plan_pure (i := 0) (d := 50) (S2 := 1) (v := .pointer p0) rfl (by decide +kernel) rfl (q_move e11_0) ?_
          refine plan_pure (i := 1) (d := 51) (S2 := 3) (v := .int .i64 y2.2.1) rfl (by decide +kernel) rfl (q_move e11_5) ?_
          refine plan_pure (i := 3) (d := 53) (S2 := 11) (v := .int .i64 y2.2.1) rfl (by decide +kernel) rfl (q_move e11_5) ?_
          obtain ⟨hm57, h⟩ := h
          obtain ⟨hm58, h⟩ := h
          refine plan_step (R := [2, 4]) (by decide +kernel) ⟨?_, ?_, trivial⟩
          · refine pstep_yes (S2 := 15) rfl (by decide +kernel) (by decide) rfl ?_
            refine do_mk (zs := [.int .i64 0, .int .i64 0]) slice38 bytes40 (by decide) zero40 rfl rfl (by decide) rfl rfl hm57 fun r59 H60 hb61 => ?_
            have h := h r59 H60 hb61
            refine ⟨_, rfl, ?_⟩
            refine plan_one (j := 4) (S2 := 31) (by decide +kernel) rfl (by decide) rfl ?_
            refine do_mk (zs := [.int .i64 0]) slice30 bytes3 (by decide) zero3 rfl rfl (by decide) rfl rfl hm58 fun r62 H63 hb64 => ?_
            have h := h r62 H63 hb64
            refine ⟨_, rfl, ?_⟩
            refine plan_pure (i := 5) (d := 55) (S2 := 63) (v := .agg ([.pointer p0, Sl.v r59, Sl.v r62] : List Value).toArray) rfl (by decide +kernel) rfl (q_build (ps := [(0, .pointer p0), (1, Sl.v r59), (2, Sl.v r62)]) (cs := [.pointer p0, Sl.v r59, Sl.v r62]) places62 zero62 rfl rfl rfl) ?_
            refine plan_one (j := 6) (S2 := 127) (by decide +kernel) rfl (by decide) rfl ?_
            refine do_newBox (cs := [.pointer p0, Sl.v r59, Sl.v r62]) rfl rfl fun a65 H66 hb67 => ?_
            have h := h a65 H66 hb67
            refine ⟨_, rfl, ?_⟩
            refine plan_pure (i := 7) (d := 8) (S2 := 255) (v := .pointer (some a65)) rfl (by decide +kernel) rfl (q_assign rfl) ?_
            refine plan_done (by decide +kernel) ?_
            exact hj48 _ _ _ h ⟨e11_1, rfl⟩
          · refine pstep_yes (S2 := 27) rfl (by decide +kernel) (by decide) rfl ?_
            refine do_mkT (zs := [.int .i64 0]) slice30 bytes3 (by decide) zero3 rfl rfl (by decide) rfl rfl hm58 fun b69 r68 hHb69 hTb69 hrb69 => ?_
            refine ⟨_, rfl, ?_⟩
            refine plan_one (j := 2) (S2 := 31) (by decide +kernel) rfl (by decide) rfl ?_
            refine do_mk (zs := [.int .i64 0, .int .i64 0]) slice38 bytes40 (by decide) zero40 rfl rfl (by decide) rfl rfl hm57 fun r70 H71 hb72 => ?_
            have h := h r70 H71 hb72
            refine ⟨_, rfl, ?_⟩
            refine plan_commit hTb69 fun hh74 => ?_
            have h := h r68 _ ⟨b69, hh74, hrb69, rfl⟩
            refine plan_pure (i := 5) (d := 55) (S2 := 63) (v := .agg ([.pointer p0, Sl.v r70, Sl.v r68] : List Value).toArray) rfl (by decide +kernel) rfl (q_build (ps := [(0, .pointer p0), (1, Sl.v r70), (2, Sl.v r68)]) (cs := [.pointer p0, Sl.v r70, Sl.v r68]) places62 zero62 rfl rfl rfl) ?_
            refine plan_one (j := 6) (S2 := 127) (by decide +kernel) rfl (by decide) rfl ?_
            refine do_newBox (cs := [.pointer p0, Sl.v r70, Sl.v r68]) rfl rfl fun a75 H76 hb77 => ?_
            have h := h a75 H76 hb77
            refine ⟨_, rfl, ?_⟩
            refine plan_pure (i := 7) (d := 8) (S2 := 255) (v := .pointer (some a75)) rfl (by decide +kernel) rfl (q_assign rfl) ?_
            refine plan_done (by decide +kernel) ?_
            exact hj48 _ _ _ h ⟨e11_1, rfl⟩
  · intro j5 hj5 h
    rcases bor (Option.isNone p0) with hc3 | hc3
    · have h := h.1 hc3
      refine no_dst (want_no rfl rfl rfl hc3) rfl (by decide) ?_
      refine no_dst (want_no rfl rfl rfl hc3) rfl (by decide) ?_
      refine no_dst (want_no rfl rfl rfl hc3) rfl (by decide) ?_
      refine no_dst (want_no rfl rfl rfl hc3) rfl (by decide) ?_
      refine no_dst (want_undef rfl rfl rfl) rfl (by decide) ?_
      refine no_dst (want_undef rfl rfl rfl) rfl (by decide) ?_
      refine no_dst (want_undef rfl rfl rfl) rfl (by decide) ?_
      refine no_dst (want_undef rfl rfl rfl) rfl (by decide) ?_
      refine no_dst (want_no rfl rfl rfl hc3) rfl (by decide) ?_
      refine GoOps.q (v := .bool true) rfl rfl (by decide) (q_pickT (btT rfl hc3) rfl) ?_
      exact hj5 true _ _ h (by exact ⟨rfl, rfl, rfl, rfl⟩)
    · have h := h.2 hc3
      refine GoOps.q (v := Sl.v p1) (want_yes rfl rfl rfl hc3) rfl (by decide) (q_move rfl) ?_
      refine GoOps.q (v := .int .i64 (p1.len : Int)) (want_yes rfl rfl rfl hc3) rfl (by decide) (q_len Try.underlying38 rfl (ls1 rfl)) ?_
      refine GoOps.q (v := .bool ((p1.len : Int) != 0)) (want_yes rfl rfl rfl hc3) rfl (by decide) (q_neq rfl rfl) ?_
      refine GoOps.q (v := .bool ((p1.len : Int) != 0)) (want_yes rfl rfl rfl hc3) rfl (by decide) (q_move rfl) ?_
      refine join_ops 5 (fun ρ (s79 : Bool) => ρ 0 = .pointer p0 ∧ ρ 1 = Sl.v p1 ∧ ρ 5 = .int .i64 y2.2.1 ∧ ρ 14 = .bool (Option.isNone p0) ∧ ρ 23 = .bool s79) h ?_ ?_ <;> clear h
      · intro s79 H81 ρ h hE
        obtain ⟨e82_0, e82_1, e82_5, e82_14, e82_23⟩ := hE
        refine GoOps.q (v := .bool s79) rfl rfl (by decide) (q_pickF (btF e82_14 hc3) e82_23) ?_
        exact hj5 s79 _ _ h (by exact ⟨e82_0, e82_1, e82_5, rfl⟩)
      · intro j80 hj80 h
        rcases bor ((p1.len : Int) != 0) with hc78 | hc78
        · have h := h.1 hc78
          refine GoOps.q (v := Sl.v p1) (want_yes rfl rfl rfl hc78) rfl (by decide) (q_move rfl) ?_
          refine GoOps.q (v := .int .i64 (p1.len : Int)) (want_yes rfl rfl rfl hc78) rfl (by decide) (q_len Try.underlying38 rfl (ls1 rfl)) ?_
          refine GoOps.q (v := .int .i64 y2.2.1) (want_yes rfl rfl rfl hc78) rfl (by decide) (q_move rfl) ?_
          refine GoOps.q (v := .bool ((p1.len : Int) != y2.2.1)) (want_yes rfl rfl rfl hc78) rfl (by decide) (q_neq rfl rfl) ?_
          refine GoOps.q (v := .bool ((p1.len : Int) != y2.2.1)) (want_yes rfl rfl rfl hc3) rfl (by decide) (q_pickT (btT rfl hc78) rfl) ?_
          exact hj80 ((p1.len : Int) != y2.2.1) _ _ h (by exact ⟨rfl, rfl, rfl, rfl, rfl⟩)
        · have h := h.2 hc78
          refine no_dst (want_no rfl rfl rfl hc78) rfl (by decide) ?_
          refine no_dst (want_no rfl rfl rfl hc78) rfl (by decide) ?_
          refine no_dst (want_no rfl rfl rfl hc78) rfl (by decide) ?_
          refine no_dst (want_no rfl rfl rfl hc78) rfl (by decide) ?_
          refine GoOps.q (v := .bool false) (want_yes rfl rfl rfl hc3) rfl (by decide) (q_pickF (btF rfl hc78) rfl) ?_
          exact hj80 false _ _ h (by exact ⟨rfl, rfl, rfl, rfl, rfl⟩)

/-- (*keelson.usage.Table).Free -/
def usage_Table_Free (p0 : Option Addr) (H : PH) (Q : Int → PH → Prop) : Prop :=
  mIf (Option.isNone p0)
  (Q 0 H)
  (mNil p0 fun a2 =>
  mLd Sl.v H (a2.add 1) fun x4 =>
  mLoop (fun (s6 : Int × Int) (H9 : PH) (again7 : (Int × Int) → PH → Prop) =>
  mIf (decide (s6.2 < (x4.len : Int)))
  (mJoin (fun (s11 : Int) (H13 : PH) =>
  again7 (s11, IntKind.wrap .i64 (s6.2 + 1)) H13)
  fun j12 =>
  mIdx x4 2 s6.2 fun a15 =>
  mLdR (fun (x : (Int × Int)) => [.int .i64 x.1, .int .i64 x.2]) H9 a15 2 fun x17 =>
  mNew H9 (row [.int .i64 0, .int .i64 0] 40) fun a19 H20 =>
  mSt H20 a19 ([.int .i64 x17.1, .int .i64 x17.2]) fun H22 =>
  mLd (.int .i64) H22 (a19.add 0) fun x24 =>
  mIf (x24 == 0)
  (j12 (IntKind.wrap .i64 (s6.1 + 1)) H22)
  (j12 s6.1 H22))
  (Q s6.1 H9))
  (0, 0) H)

set_option maxRecDepth 20000 in
set_option maxHeartbeats 1000000 in
theorem usage_Table_Free_s (p0 : Option Addr) (H : PH) (Q : Int → PH → Prop) (h : usage_Table_Free p0 H Q) :
    CallsH Try.prog 48 #[.pointer p0] H (fun v H' => ∃ (r0 : Int), v = .int .i64 r0 ∧ Q r0 H') := by
  unfold usage_Table_Free at h
  refine callsH_of_go Try.func48 rfl Try.ntmps48 (Nat.le_of_ble_eq_true rfl) ?_
  refine Go.seq ?_
  refine Go.region rfl ?_
  refine GoOps.q (v := .int .i64 0) rfl rfl (by decide) (q_assign rfl) ?_
  refine GoOps.nil ?_
  refine Go.seq ?_
  refine Go.seq ?_
  refine Go.region rfl ?_
  refine GoOps.q (v := .pointer p0) rfl rfl (by decide) (q_move rfl) ?_
  refine GoOps.q (v := .bool (Option.isNone p0)) rfl rfl (by decide) (q_eqlPn Try.underlying41 rfl rfl) ?_
  refine GoOps.nil ?_
  rcases bor (Option.isNone p0) with hc1 | hc1
  · have h := h.1 hc1
    refine Go.condT (btT rfl hc1) ?_
    refine Go.seq ?_
    refine Go.region rfl ?_
    refine GoOps.q (v := .int .i64 0) rfl rfl (by decide) (q_assign rfl) ?_
    refine GoOps.nil ?_
    exact Go.ret ⟨.inl rfl, _, _, DOk.nil, (resOk1 Try.results48 rfl), ⟨_, rfl, h⟩⟩
  · have h := h.2 hc1
    refine Go.condF (btF rfl hc1) ?_
    refine Go.skip ?_
    refine Go.seq ?_
    refine Go.seq ?_
    refine Go.region rfl ?_
    refine GoOps.q (v := .pointer p0) rfl rfl (by decide) (q_move rfl) ?_
    obtain ⟨a2, ha3, h⟩ := h
    refine GoOps.q (v := .pointer (some a2)) rfl rfl (by decide) (q_nilCheck (ptn rfl ha3)) ?_
    refine GoOps.q (v := .pointer (some (a2.add 1))) rfl rfl (by decide) (q_fieldAddr foff62_1 rfl) ?_
    obtain ⟨x4, hx5, h⟩ := h
    refine GoOps.q (v := Sl.v x4) rfl rfl (by decide) (q_load scalar38 rfl hx5) ?_
    refine GoOps.q (v := .int .i64 (x4.len : Int)) rfl rfl (by decide) (q_len Try.underlying38 rfl (ls1 rfl)) ?_
    refine GoOps.q (v := .int .i64 0) rfl rfl (by decide) (q_move rfl) ?_
    refine GoOps.nil ?_
    refine Go.block ?_
    refine loop_go (fun ρ (s6 : Int × Int) => ρ 2 = .int .i64 s6.1 ∧ ρ 10 = Sl.v x4 ∧ ρ 11 = .int .i64 (x4.len : Int) ∧ ρ 12 = .int .i64 s6.2) h ⟨rfl, rfl, rfl, rfl⟩ ?_
    clear h
    intro ρ s6 H9 again7 hE h hagain7
    obtain ⟨e8_2, e8_10, e8_11, e8_12⟩ := hE
    refine Go.seq ?_
    refine Go.region rfl ?_
    refine GoOps.q (v := .bool (decide (s6.2 < (x4.len : Int)))) rfl rfl (by decide) (q_lss e8_12 e8_11) ?_
    refine GoOps.nil ?_
    refine Go.seq ?_
    rcases bor (decide (s6.2 < (x4.len : Int))) with hc10 | hc10
    · have h := h.1 hc10
      refine Go.condT (btT rfl hc10) ?_
      refine Go.skip ?_
      refine Go.seq ?_
      refine join_go 1 (fun ρ (s11 : Int) => ρ 2 = .int .i64 s11 ∧ ρ 10 = Sl.v x4 ∧ ρ 11 = .int .i64 (x4.len : Int) ∧ ρ 12 = .int .i64 s6.2) h ?_ ?_ <;> clear h
      · intro s11 H13 ρ h hE
        obtain ⟨e14_2, e14_10, e14_11, e14_12⟩ := hE
        refine Go.region rfl ?_
        refine GoOps.q (v := .int .i64 (IntKind.wrap .i64 (s6.2 + 1))) rfl rfl (by decide) (q_add e14_12 rfl) ?_
        refine GoOps.q (v := .int .i64 (IntKind.wrap .i64 (s6.2 + 1))) rfl rfl (by decide) (q_move rfl) ?_
        refine GoOps.nil ?_
        exact hagain7 _ _ _ h ⟨e14_2, e14_10, e14_11, rfl⟩
      · intro j12 hj12 h
        refine Go.block ?_
        refine Go.seq ?_
        refine Go.region rfl ?_
        obtain ⟨a15, ha16, h⟩ := h
        refine GoOps.q (v := .pointer (some a15)) rfl rfl (by decide) (q_idx slice38 ha16 e8_10 e8_12) ?_
        obtain ⟨x17, hx18, h⟩ := h
        refine GoOps.q (v := .agg ([.int .i64 x17.1, .int .i64 x17.2] : List Value).toArray) rfl rfl (by decide) (q_loadA aggr40 rfl hx18) ?_
        refine op_dst rfl rfl (by decide) (do_new zero40 rfl fun a19 H20 hb21 => ?_) 
        have h := h a19 H20 hb21
        obtain ⟨q23b, q23o, q23c, q23e, hq23a, hq23b, hq23l, hq23v, h⟩ := h
        refine op_none rfl rfl (do_store (vs := [.int .i64 x17.1, .int .i64 x17.2]) size40 (pta rfl hq23a) rfl rfl rfl hq23v hq23b hq23l ?_) 
        refine GoOps.nil ?_
        refine Go.seq ?_
        refine Go.region rfl ?_
        refine GoOps.q (v := .pointer (some (a19.add 0))) rfl rfl (by decide) (q_fieldAddr foff40_0 rfl) ?_
        obtain ⟨x24, hx25, h⟩ := h
        refine GoOps.q (v := .int .i64 x24) rfl rfl (by decide) (q_load scalar3 rfl hx25) ?_
        refine GoOps.q (v := .bool (x24 == 0)) rfl rfl (by decide) (q_eql rfl rfl) ?_
        refine GoOps.nil ?_
        rcases bor (x24 == 0) with hc26 | hc26
        · have h := h.1 hc26
          refine Go.condT (btT rfl hc26) ?_
          refine Go.region rfl ?_
          refine GoOps.q (v := .int .i64 s6.1) rfl rfl (by decide) (q_move e8_2) ?_
          refine GoOps.q (v := .int .i64 (IntKind.wrap .i64 (s6.1 + 1))) rfl rfl (by decide) (q_add rfl rfl) ?_
          refine GoOps.q (v := .int .i64 (IntKind.wrap .i64 (s6.1 + 1))) rfl rfl (by decide) (q_assign rfl) ?_
          refine GoOps.nil ?_
          refine Go.inBlock ?_
          exact hj12 _ _ _ h ⟨rfl, e8_10, e8_11, e8_12⟩
        · have h := h.2 hc26
          refine Go.condF (btF rfl hc26) ?_
          refine Go.skip ?_
          refine Go.inBlock ?_
          exact hj12 _ _ _ h ⟨e8_2, e8_10, e8_11, e8_12⟩
    · have h := h.2 hc10
      refine Go.condF (btF rfl hc10) ?_
      refine Go.exit rfl ?_
      refine Go.seq ?_
      refine Go.region rfl ?_
      refine GoOps.q (v := .int .i64 s6.1) rfl rfl (by decide) (q_move e8_2) ?_
      refine GoOps.q (v := .int .i64 s6.1) rfl rfl (by decide) (q_assign rfl) ?_
      refine GoOps.nil ?_
      exact Go.ret ⟨.inl rfl, _, _, DOk.nil, (resOk1 Try.results48 rfl), ⟨_, rfl, h⟩⟩

/-- slices.IndexFunc[[]keelson.api.Use,keelson.api.Use] -/
def slices_IndexFunc_Slapi_Use_api_Use (p0 : Sl) (p1 : Value) (H : PH) (Q : Int → PH → Prop) : Prop :=
  mLoop (fun (s1 : Int) (H4 : PH) (again2 : Int → PH → Prop) =>
  mIf (decide (s1 < (p0.len : Int)))
  (mIdx p0 2 s1 fun a6 =>
  mLdR (fun (x : (Int × Int)) => [.int .i64 x.1, .int .i64 x.2]) H4 a6 2 fun x8 =>
  CallV Try.prog p1 [.agg ([.int .i64 x8.1, .int .i64 x8.2] : List Value).toArray] H4 fun r11 H10 =>
  ∃ (y12 : Bool), r11 = .bool y12 ∧
  mIf y12
  (Q s1 H10)
  (again2 (IntKind.wrap .i64 (s1 + 1)) H10))
  (Q (-1) H4))
  0 H

set_option maxRecDepth 20000 in
set_option maxHeartbeats 1000000 in
theorem slices_IndexFunc_Slapi_Use_api_Use_s (p0 : Sl) (p1 : Value) (H : PH) (Q : Int → PH → Prop) (h : slices_IndexFunc_Slapi_Use_api_Use p0 p1 H Q) :
    CallsH Try.prog 49 #[Sl.v p0, p1] H (fun v H' => ∃ (r0 : Int), v = .int .i64 r0 ∧ Q r0 H') := by
  unfold slices_IndexFunc_Slapi_Use_api_Use at h
  refine callsH_of_go Try.func49 rfl Try.ntmps49 (Nat.le_of_ble_eq_true rfl) ?_
  refine Go.seq ?_
  refine Go.region rfl ?_
  refine GoOps.q (v := .int .i64 0) rfl rfl (by decide) (q_assign rfl) ?_
  refine GoOps.nil ?_
  refine Go.seq ?_
  refine Go.seq ?_
  refine Go.region rfl ?_
  refine GoOps.q (v := Sl.v p0) rfl rfl (by decide) (q_move rfl) ?_
  refine GoOps.q (v := .int .i64 (p0.len : Int)) rfl rfl (by decide) (q_len Try.underlying38 rfl (ls1 rfl)) ?_
  refine GoOps.q (v := .int .i64 0) rfl rfl (by decide) (q_move rfl) ?_
  refine GoOps.nil ?_
  refine Go.block ?_
  refine loop_go (fun ρ (s1 : Int) => ρ 0 = Sl.v p0 ∧ ρ 1 = p1 ∧ ρ 7 = .int .i64 (p0.len : Int) ∧ ρ 8 = .int .i64 s1) h ⟨rfl, rfl, rfl, rfl⟩ ?_
  clear h
  intro ρ s1 H4 again2 hE h hagain2
  obtain ⟨e3_0, e3_1, e3_7, e3_8⟩ := hE
  refine Go.seq ?_
  refine Go.region rfl ?_
  refine GoOps.q (v := .bool (decide (s1 < (p0.len : Int)))) rfl rfl (by decide) (q_lss e3_8 e3_7) ?_
  refine GoOps.nil ?_
  refine Go.seq ?_
  rcases bor (decide (s1 < (p0.len : Int))) with hc5 | hc5
  · have h := h.1 hc5
    refine Go.condT (btT rfl hc5) ?_
    refine Go.skip ?_
    refine Go.seq ?_
    refine Go.block ?_
    refine Go.seq ?_
    refine Go.region rfl ?_
    refine GoOps.q (v := .int .i64 s1) rfl rfl (by decide) (q_move e3_8) ?_
    refine GoOps.q (v := .int .i64 s1) rfl rfl (by decide) (q_assign rfl) ?_
    refine GoOps.nil ?_
    refine Go.seq ?_
    refine Go.region rfl ?_
    refine GoOps.q (v := p1) rfl rfl (by decide) (q_move e3_1) ?_
    refine GoOps.q (v := Sl.v p0) rfl rfl (by decide) (q_move e3_0) ?_
    refine GoOps.q (v := .int .i64 s1) rfl rfl (by decide) (q_move rfl) ?_
    obtain ⟨a6, ha7, h⟩ := h
    refine GoOps.q (v := .pointer (some a6)) rfl rfl (by decide) (q_idx slice38 ha7 rfl rfl) ?_
    obtain ⟨x8, hx9, h⟩ := h
    refine GoOps.q (v := .agg ([.int .i64 x8.1, .int .i64 x8.2] : List Value).toArray) rfl rfl (by decide) (q_loadA aggr40 rfl hx9) ?_
    refine op_dst rfl rfl (by decide) (do_callC rfl rfl h fun r11 H10 h => ?_) 
    obtain ⟨y12, rfl, h⟩ := h
    refine GoOps.nil ?_
    rcases bor y12 with hc13 | hc13
    · have h := h.1 hc13
      refine Go.condT (btT rfl hc13) ?_
      refine Go.seq ?_
      refine Go.region rfl ?_
      refine GoOps.q (v := .int .i64 s1) rfl rfl (by decide) (q_move rfl) ?_
      refine GoOps.q (v := .int .i64 s1) rfl rfl (by decide) (q_assign rfl) ?_
      refine GoOps.nil ?_
      exact Go.ret ⟨.inl rfl, _, _, DOk.nil, (resOk1 Try.results49 rfl), ⟨_, rfl, h⟩⟩
    · have h := h.2 hc13
      refine Go.condF (btF rfl hc13) ?_
      refine Go.skip ?_
      refine Go.inBlock ?_
      refine Go.region rfl ?_
      refine GoOps.q (v := .int .i64 (IntKind.wrap .i64 (s1 + 1))) rfl rfl (by decide) (q_add e3_8 rfl) ?_
      refine GoOps.q (v := .int .i64 (IntKind.wrap .i64 (s1 + 1))) rfl rfl (by decide) (q_move rfl) ?_
      refine GoOps.nil ?_
      exact hagain2 _ _ _ h ⟨e3_0, e3_1, e3_7, rfl⟩
  · have h := h.2 hc5
    refine Go.condF (btF rfl hc5) ?_
    refine Go.exit rfl ?_
    refine Go.seq ?_
    refine Go.region rfl ?_
    refine GoOps.q (v := .int .i64 (-1)) rfl rfl (by decide) (q_assign rfl) ?_
    refine GoOps.nil ?_
    exact Go.ret ⟨.inl rfl, _, _, DOk.nil, (resOk1 Try.results49 rfl), ⟨_, rfl, h⟩⟩

/-- (*keelson.usage.Table).has -/
def usage_Table_has (p0 : Option Addr) (p1 : Int) (H : PH) (Q : Bool → PH → Prop) : Prop :=
  mJoin (fun (s2 : Bool) (H4 : PH) =>
  mJoin (fun (s7 : Bool) (H9 : PH) =>
  Q s7 H9)
  fun j8 =>
  mIf s2
  (mNil p0 fun a11 =>
  mLd Sl.v H4 (a11.add 1) fun x13 =>
  j8 (decide (p1 < (x13.len : Int))) H4)
  (j8 false H4))
  fun j3 =>
  mIf (!(Option.isNone p0))
  (j3 (decide (0 ≤ p1)) H)
  (j3 false H)

set_option maxRecDepth 20000 in
set_option maxHeartbeats 1000000 in
theorem usage_Table_has_s (p0 : Option Addr) (p1 : Int) (H : PH) (Q : Bool → PH → Prop) (h : usage_Table_has p0 p1 H Q) :
    CallsH Try.prog 47 #[.pointer p0, .int .i64 p1] H (fun v H' => ∃ (r0 : Bool), v = .bool r0 ∧ Q r0 H') := by
  unfold usage_Table_has at h
  refine callsH_of_go Try.func47 rfl Try.ntmps47 (Nat.le_of_ble_eq_true rfl) ?_
  refine Go.seq ?_
  refine Go.region rfl ?_
  refine GoOps.q (v := .bool false) rfl rfl (by decide) (q_assign rfl) ?_
  refine GoOps.nil ?_
  refine Go.seq ?_
  refine Go.region rfl ?_
  refine GoOps.q (v := .pointer p0) rfl rfl (by decide) (q_move rfl) ?_
  refine GoOps.q (v := .bool (!(Option.isNone p0))) rfl rfl (by decide) (q_neqPn Try.underlying41 rfl rfl) ?_
  refine GoOps.q (v := .bool (!(Option.isNone p0))) rfl rfl (by decide) (q_move rfl) ?_
  refine join_ops 3 (fun ρ (s2 : Bool) => ρ 0 = .pointer p0 ∧ ρ 1 = .int .i64 p1 ∧ ρ 10 = .bool s2) h ?_ ?_ <;> clear h
  · intro s2 H4 ρ h hE
    obtain ⟨e5_0, e5_1, e5_10⟩ := hE
    refine GoOps.q (v := .bool s2) rfl rfl (by decide) (q_move e5_10) ?_
    refine join_ops 8 (fun ρ (s7 : Bool) => ρ 19 = .bool s7) h ?_ ?_ <;> clear h
    · intro s7 H9 ρ h hE
      have e10_19 := hE
      refine GoOps.q (v := .bool s7) rfl rfl (by decide) (q_assign e10_19) ?_
      refine GoOps.nil ?_
      exact Go.ret ⟨.inl rfl, _, _, DOk.nil, (resOk1 Try.results47 rfl), ⟨_, rfl, h⟩⟩
    · intro j8 hj8 h
      rcases bor s2 with hc6 | hc6
      · have h := h.1 hc6
        refine GoOps.q (v := .int .i64 p1) (want_yes rfl rfl rfl hc6) rfl (by decide) (q_move e5_1) ?_
        refine GoOps.q (v := .pointer p0) (want_yes rfl rfl rfl hc6) rfl (by decide) (q_move e5_0) ?_
        obtain ⟨a11, ha12, h⟩ := h
        refine GoOps.q (v := .pointer (some a11)) (want_yes rfl rfl rfl hc6) rfl (by decide) (q_nilCheck (ptn rfl ha12)) ?_
        refine GoOps.q (v := .pointer (some (a11.add 1))) (want_yes rfl rfl rfl hc6) rfl (by decide) (q_fieldAddr foff62_1 rfl) ?_
        obtain ⟨x13, hx14, h⟩ := h
        refine GoOps.q (v := Sl.v x13) (want_yes rfl rfl rfl hc6) rfl (by decide) (q_load scalar38 rfl hx14) ?_
        refine GoOps.q (v := .int .i64 (x13.len : Int)) (want_yes rfl rfl rfl hc6) rfl (by decide) (q_len Try.underlying38 rfl (ls1 rfl)) ?_
        refine GoOps.q (v := .bool (decide (p1 < (x13.len : Int)))) (want_yes rfl rfl rfl hc6) rfl (by decide) (q_lss rfl rfl) ?_
        refine GoOps.q (v := .bool (decide (p1 < (x13.len : Int)))) rfl rfl (by decide) (q_pickT (btT rfl hc6) rfl) ?_
        exact hj8 (decide (p1 < (x13.len : Int))) _ _ h (by exact rfl)
      · have h := h.2 hc6
        refine no_dst (want_no rfl rfl rfl hc6) rfl (by decide) ?_
        refine no_dst (want_no rfl rfl rfl hc6) rfl (by decide) ?_
        refine no_dst (want_no rfl rfl rfl hc6) rfl (by decide) ?_
        refine no_dst (want_no rfl rfl rfl hc6) rfl (by decide) ?_
        refine no_dst (want_no rfl rfl rfl hc6) rfl (by decide) ?_
        refine no_dst (want_no rfl rfl rfl hc6) rfl (by decide) ?_
        refine no_dst (want_no rfl rfl rfl hc6) rfl (by decide) ?_
        refine GoOps.q (v := .bool false) rfl rfl (by decide) (q_pickF (btF rfl hc6) rfl) ?_
        exact hj8 false _ _ h (by exact rfl)
  · intro j3 hj3 h
    rcases bor (!(Option.isNone p0)) with hc1 | hc1
    · have h := h.1 hc1
      refine GoOps.q (v := .int .i64 p1) (want_yes rfl rfl rfl hc1) rfl (by decide) (q_move rfl) ?_
      refine GoOps.q (v := .bool (decide (0 ≤ p1))) (want_yes rfl rfl rfl hc1) rfl (by decide) (q_geq rfl rfl) ?_
      refine GoOps.q (v := .bool (decide (0 ≤ p1))) rfl rfl (by decide) (q_pickT (btT rfl hc1) rfl) ?_
      exact hj3 (decide (0 ≤ p1)) _ _ h (by exact ⟨rfl, rfl, rfl⟩)
    · have h := h.2 hc1
      refine no_dst (want_no rfl rfl rfl hc1) rfl (by decide) ?_
      refine no_dst (want_no rfl rfl rfl hc1) rfl (by decide) ?_
      refine GoOps.q (v := .bool false) rfl rfl (by decide) (q_pickF (btF rfl hc1) rfl) ?_
      exact hj3 false _ _ h (by exact ⟨rfl, rfl, rfl⟩)

/-- (*keelson.usage.Table).Grab -/
def usage_Table_Grab (p0 : Option Addr) (p1 : Int) (H : PH) (Q : Bool → PH → Prop) : Prop :=
  usage_Table_has p0 p1 H fun y2 H1 =>
  mJoin (fun (s4 : Bool) (H6 : PH) =>
  mIf s4
  (Q false H6)
  (mNil p0 fun a9 =>
  mLd Sl.v H6 (a9.add 1) fun x11 =>
  mNil p0 fun a13 =>
  mLd Sl.v H6 (a13.add 2) fun x15 =>
  mIdx x11 2 p1 fun a17 =>
  mSt H6 (a17.add 0) ([.int .i64 1]) fun H19 =>
  mIdx x15 1 p1 fun a21 =>
  mSt H19 a21 ([.int .i64 0]) fun H23 =>
  Q true H23))
  fun j5 =>
  mIf (!y2)
  (j5 true H1)
  (mNil p0 fun a25 =>
  mLd Sl.v H1 (a25.add 1) fun x27 =>
  mIdx x27 2 p1 fun a29 =>
  mLd (.int .i64) H1 (a29.add 0) fun x31 =>
  j5 (x31 != 0) H1)

set_option maxRecDepth 20000 in
set_option maxHeartbeats 1000000 in
theorem usage_Table_Grab_s (p0 : Option Addr) (p1 : Int) (H : PH) (Q : Bool → PH → Prop) (h : usage_Table_Grab p0 p1 H Q) :
    CallsH Try.prog 24 #[.pointer p0, .int .i64 p1] H (fun v H' => ∃ (r0 : Bool), v = .bool r0 ∧ Q r0 H') := by
  unfold usage_Table_Grab at h
  refine callsH_of_go Try.func24 rfl Try.ntmps24 (Nat.le_of_ble_eq_true rfl) ?_
  refine Go.seq ?_
  refine Go.region rfl ?_
  refine GoOps.q (v := .bool false) rfl rfl (by decide) (q_assign rfl) ?_
  refine GoOps.nil ?_
  refine Go.seq ?_
  refine Go.seq ?_
  refine Go.region rfl ?_
  refine GoOps.q (v := .pointer p0) rfl rfl (by decide) (q_move rfl) ?_
  refine GoOps.q (v := .int .i64 p1) rfl rfl (by decide) (q_move rfl) ?_
  refine call_dst rfl (by decide) body47 (usage_Table_has_s _ _ _ _ h) rfl ?_
  rintro _ H1 ⟨y2, rfl, h⟩
  refine GoOps.q (v := .bool (!y2)) rfl rfl (by decide) (q_not rfl) ?_
  refine GoOps.q (v := .bool (!y2)) rfl rfl (by decide) (q_move rfl) ?_
  refine join_ops 10 (fun ρ (s4 : Bool) => ρ 0 = .pointer p0 ∧ ρ 1 = .int .i64 p1 ∧ ρ 19 = .bool s4) h ?_ ?_ <;> clear h
  · intro s4 H6 ρ h hE
    obtain ⟨e7_0, e7_1, e7_19⟩ := hE
    refine GoOps.nil ?_
    rcases bor s4 with hc8 | hc8
    · have h := h.1 hc8
      refine Go.condT (btT e7_19 hc8) ?_
      refine Go.seq ?_
      refine Go.region rfl ?_
      refine GoOps.q (v := .bool false) rfl rfl (by decide) (q_assign rfl) ?_
      refine GoOps.nil ?_
      exact Go.ret ⟨.inl rfl, _, _, DOk.nil, (resOk1 Try.results24 rfl), ⟨_, rfl, h⟩⟩
    · have h := h.2 hc8
      refine Go.condF (btF e7_19 hc8) ?_
      refine Go.skip ?_
      refine Go.seq ?_
      refine Go.draw mixed ?_
      refine plan_pure (i := 0) (d := 20) (S2 := 1) (v := .pointer p0) rfl (by decide +kernel) rfl (q_move e7_0) ?_
      obtain ⟨a9, ha10, h⟩ := h
      refine plan_pure (i := 1) (d := 21) (S2 := 3) (v := .pointer (some a9)) rfl (by decide +kernel) rfl (q_nilCheck (ptn rfl ha10)) ?_
      refine plan_pure (i := 2) (d := 22) (S2 := 7) (v := .pointer (some (a9.add 1))) rfl (by decide +kernel) rfl (q_fieldAddr foff62_1 rfl) ?_
      obtain ⟨x11, hx12, h⟩ := h
      refine plan_load (i := 3) (d := 23) (S2 := 15) (v := Sl.v x11) rfl (by decide +kernel) rfl (q_load scalar38 rfl hx12) ?_
      refine plan_pure (i := 4) (d := 24) (S2 := 31) (v := .int .i64 p1) rfl (by decide +kernel) rfl (q_move e7_1) ?_
      refine plan_pure (i := 5) (d := 25) (S2 := 63) (v := .pointer p0) rfl (by decide +kernel) rfl (q_move e7_0) ?_
      obtain ⟨a13, ha14, h⟩ := h
      refine plan_pure (i := 6) (d := 26) (S2 := 127) (v := .pointer (some a13)) rfl (by decide +kernel) rfl (q_nilCheck (ptn rfl ha14)) ?_
      refine plan_pure (i := 7) (d := 27) (S2 := 255) (v := .pointer (some (a13.add 2))) rfl (by decide +kernel) rfl (q_fieldAddr foff62_2 rfl) ?_
      obtain ⟨x15, hx16, h⟩ := h
      refine plan_load (i := 8) (d := 28) (S2 := 511) (v := Sl.v x15) rfl (by decide +kernel) rfl (q_load scalar30 rfl hx16) ?_
      refine plan_pure (i := 9) (d := 29) (S2 := 1023) (v := .int .i64 p1) rfl (by decide +kernel) rfl (q_move e7_1) ?_
      obtain ⟨a17, ha18, h⟩ := h
      refine plan_pure (i := 10) (d := 30) (S2 := 2047) (v := .pointer (some a17)) rfl (by decide +kernel) rfl (q_idx slice38 ha18 rfl rfl) ?_
      refine plan_pure (i := 11) (d := 31) (S2 := 4095) (v := .pointer (some (a17.add 0))) rfl (by decide +kernel) rfl (q_fieldAddr foff40_0 rfl) ?_
      refine plan_one (j := 12) (S2 := 8191) (by decide +kernel) rfl (by decide) rfl ?_
      obtain ⟨q20b, q20o, q20c, q20e, hq20a, hq20b, hq20l, hq20v, h⟩ := h
      refine do_store (vs := [.int .i64 1]) size3 (pta rfl hq20a) rfl rfl rfl hq20v hq20b hq20l ?_
      refine ⟨_, (.inl ⟨⟨[12], by decide +kernel, rfl⟩, .inl ⟨⟨[12], by decide +kernel, rfl⟩, rfl⟩⟩), ?_⟩
      obtain ⟨a21, ha22, h⟩ := h
      refine plan_pure (i := 13) (d := 32) (S2 := 16383) (v := .pointer (some a21)) rfl (by decide +kernel) rfl (q_idx slice30 ha22 rfl rfl) ?_
      refine plan_one (j := 14) (S2 := 32767) (by decide +kernel) rfl (by decide) rfl ?_
      obtain ⟨q24b, q24o, q24c, q24e, hq24a, hq24b, hq24l, hq24v, h⟩ := h
      refine do_store (vs := [.int .i64 0]) size3 (pta rfl hq24a) rfl rfl rfl hq24v hq24b hq24l ?_
      refine ⟨_, rfl, ?_⟩
      refine plan_done (by decide +kernel) ?_
      refine Go.seq ?_
      refine Go.region rfl ?_
      refine GoOps.q (v := .bool true) rfl rfl (by decide) (q_assign rfl) ?_
      refine GoOps.nil ?_
      exact Go.ret ⟨.inl rfl, _, _, DOk.nil, (resOk1 Try.results24 rfl), ⟨_, rfl, h⟩⟩
  · intro j5 hj5 h
    rcases bor (!y2) with hc3 | hc3
    · have h := h.1 hc3
      refine no_dst (want_no rfl rfl rfl hc3) rfl (by decide) ?_
      refine no_dst (want_no rfl rfl rfl hc3) rfl (by decide) ?_
      refine no_dst (want_no rfl rfl rfl hc3) rfl (by decide) ?_
      refine no_dst (want_no rfl rfl rfl hc3) rfl (by decide) ?_
      refine no_dst (want_no rfl rfl rfl hc3) rfl (by decide) ?_
      refine no_dst (want_no rfl rfl rfl hc3) rfl (by decide) ?_
      refine no_dst (want_no rfl rfl rfl hc3) rfl (by decide) ?_
      refine no_dst (want_no rfl rfl rfl hc3) rfl (by decide) ?_
      refine no_dst (want_no rfl rfl rfl hc3) rfl (by decide) ?_
      refine GoOps.q (v := .bool true) rfl rfl (by decide) (q_pickT (btT rfl hc3) rfl) ?_
      exact hj5 true _ _ h (by exact ⟨rfl, rfl, rfl⟩)
    · have h := h.2 hc3
      refine GoOps.q (v := .pointer p0) (want_yes rfl rfl rfl hc3) rfl (by decide) (q_move rfl) ?_
      obtain ⟨a25, ha26, h⟩ := h
      refine GoOps.q (v := .pointer (some a25)) (want_yes rfl rfl rfl hc3) rfl (by decide) (q_nilCheck (ptn rfl ha26)) ?_
      refine GoOps.q (v := .pointer (some (a25.add 1))) (want_yes rfl rfl rfl hc3) rfl (by decide) (q_fieldAddr foff62_1 rfl) ?_
      obtain ⟨x27, hx28, h⟩ := h
      refine GoOps.q (v := Sl.v x27) (want_yes rfl rfl rfl hc3) rfl (by decide) (q_load scalar38 rfl hx28) ?_
      refine GoOps.q (v := .int .i64 p1) (want_yes rfl rfl rfl hc3) rfl (by decide) (q_move rfl) ?_
      obtain ⟨a29, ha30, h⟩ := h
      refine GoOps.q (v := .pointer (some a29)) (want_yes rfl rfl rfl hc3) rfl (by decide) (q_idx slice38 ha30 rfl rfl) ?_
      refine GoOps.q (v := .pointer (some (a29.add 0))) (want_yes rfl rfl rfl hc3) rfl (by decide) (q_fieldAddr foff40_0 rfl) ?_
      obtain ⟨x31, hx32, h⟩ := h
      refine GoOps.q (v := .int .i64 x31) (want_yes rfl rfl rfl hc3) rfl (by decide) (q_load scalar3 rfl hx32) ?_
      refine GoOps.q (v := .bool (x31 != 0)) (want_yes rfl rfl rfl hc3) rfl (by decide) (q_neq rfl rfl) ?_
      refine GoOps.q (v := .bool (x31 != 0)) rfl rfl (by decide) (q_pickF (btF rfl hc3) rfl) ?_
      exact hj5 (x31 != 0) _ _ h (by exact ⟨rfl, rfl, rfl⟩)

/-- (*keelson.usage.Table).Take -/
def usage_Table_Take (p0 : Option Addr) (p1 : Bool) (H : PH) (Q : Int → Bool → PH → Prop) : Prop :=
  mJoin (fun (s2 : Bool) (H4 : PH) =>
  mIf s2
  (Q 0 false H4)
  (mNil p0 fun a7 =>
  mLd Sl.v H4 (a7.add 1) fun x9 =>
  slices_IndexFunc_Slapi_Use_api_Use x9 (.func (.func 50) #[] #[]) H4 fun y12 H11 =>
  usage_Table_Grab p0 y12 H11 fun y14 H13 =>
  mIf (!y14)
  (Q 0 false H13)
  (Q y12 true H13)))
  fun j3 =>
  mIf (Option.isNone p0)
  (j3 true H)
  (mJoin (fun (s17 : Bool) (H19 : PH) =>
  j3 s17 H19)
  fun j18 =>
  mIf (!p1)
  (usage_Table_Free p0 H fun y22 H21 =>
  j18 (decide (y22 ≤ 2)) H21)
  (j18 false H))

set_option maxRecDepth 20000 in
set_option maxHeartbeats 1000000 in
theorem usage_Table_Take_s (p0 : Option Addr) (p1 : Bool) (H : PH) (Q : Int → Bool → PH → Prop) (h : usage_Table_Take p0 p1 H Q) :
    CallsH Try.prog 33 #[.pointer p0, .bool p1] H (fun v H' => ∃ (r0 : Int) (r1 : Bool), v = .tuple #[.int .i64 r0, .bool r1] ∧ Q r0 r1 H') := by
  unfold usage_Table_Take at h
  refine callsH_of_go Try.func33 rfl Try.ntmps33 (Nat.le_of_ble_eq_true rfl) ?_
  refine Go.seq ?_
  refine Go.region rfl ?_
  refine GoOps.q (v := .int .i64 0) rfl rfl (by decide) (q_assign rfl) ?_
  refine GoOps.q (v := .bool false) rfl rfl (by decide) (q_assign rfl) ?_
  refine GoOps.nil ?_
  refine Go.seq ?_
  refine Go.seq ?_
  refine Go.region rfl ?_
  refine GoOps.q (v := .pointer p0) rfl rfl (by decide) (q_move rfl) ?_
  refine GoOps.q (v := .bool (Option.isNone p0)) rfl rfl (by decide) (q_eqlPn Try.underlying41 rfl rfl) ?_
  refine GoOps.q (v := .bool (Option.isNone p0)) rfl rfl (by decide) (q_move rfl) ?_
  refine join_ops 8 (fun ρ (s2 : Bool) => ρ 0 = .pointer p0 ∧ ρ 17 = .bool s2) h ?_ ?_ <;> clear h
  · intro s2 H4 ρ h hE
    obtain ⟨e5_0, e5_17⟩ := hE
    refine GoOps.nil ?_
    rcases bor s2 with hc6 | hc6
    · have h := h.1 hc6
      refine Go.condT (btT e5_17 hc6) ?_
      refine Go.seq ?_
      refine Go.region rfl ?_
      refine GoOps.q (v := .int .i64 0) rfl rfl (by decide) (q_assign rfl) ?_
      refine GoOps.q (v := .bool false) rfl rfl (by decide) (q_assign rfl) ?_
      refine GoOps.nil ?_
      exact Go.ret ⟨.inl rfl, _, _, DOk.nil, (resOk2 Try.results33 rfl rfl), ⟨_, _, rfl, h⟩⟩
    · have h := h.2 hc6
      refine Go.condF (btF e5_17 hc6) ?_
      refine Go.skip ?_
      refine Go.seq ?_
      refine Go.region rfl ?_
      refine GoOps.q (v := .pointer p0) rfl rfl (by decide) (q_move e5_0) ?_
      obtain ⟨a7, ha8, h⟩ := h
      refine GoOps.q (v := .pointer (some a7)) rfl rfl (by decide) (q_nilCheck (ptn rfl ha8)) ?_
      refine GoOps.q (v := .pointer (some (a7.add 1))) rfl rfl (by decide) (q_fieldAddr foff62_1 rfl) ?_
      obtain ⟨x9, hx10, h⟩ := h
      refine GoOps.q (v := Sl.v x9) rfl rfl (by decide) (q_load scalar38 rfl hx10) ?_
      refine call_dst rfl (by decide) body49 (slices_IndexFunc_Slapi_Use_api_Use_s _ _ _ _ h) rfl ?_
      rintro _ H11 ⟨y12, rfl, h⟩
      refine GoOps.q (v := .int .i64 y12) rfl rfl (by decide) (q_assign rfl) ?_
      refine GoOps.nil ?_
      refine Go.seq ?_
      refine Go.seq ?_
      refine Go.region rfl ?_
      refine GoOps.q (v := .pointer p0) rfl rfl (by decide) (q_move e5_0) ?_
      refine GoOps.q (v := .int .i64 y12) rfl rfl (by decide) (q_move rfl) ?_
      refine call_dst rfl (by decide) body24 (usage_Table_Grab_s _ _ _ _ h) rfl ?_
      rintro _ H13 ⟨y14, rfl, h⟩
      refine GoOps.q (v := .bool (!y14)) rfl rfl (by decide) (q_not rfl) ?_
      refine GoOps.nil ?_
      rcases bor (!y14) with hc15 | hc15
      · have h := h.1 hc15
        refine Go.condT (btT rfl hc15) ?_
        refine Go.seq ?_
        refine Go.region rfl ?_
        refine GoOps.q (v := .int .i64 0) rfl rfl (by decide) (q_assign rfl) ?_
        refine GoOps.q (v := .bool false) rfl rfl (by decide) (q_assign rfl) ?_
        refine GoOps.nil ?_
        exact Go.ret ⟨.inl rfl, _, _, DOk.nil, (resOk2 Try.results33 rfl rfl), ⟨_, _, rfl, h⟩⟩
      · have h := h.2 hc15
        refine Go.condF (btF rfl hc15) ?_
        refine Go.skip ?_
        refine Go.seq ?_
        refine Go.region rfl ?_
        refine GoOps.q (v := .int .i64 y12) rfl rfl (by decide) (q_move rfl) ?_
        refine GoOps.q (v := .int .i64 y12) rfl rfl (by decide) (q_assign rfl) ?_
        refine GoOps.q (v := .bool true) rfl rfl (by decide) (q_assign rfl) ?_
        refine GoOps.nil ?_
        exact Go.ret ⟨.inl rfl, _, _, DOk.nil, (resOk2 Try.results33 rfl rfl), ⟨_, _, rfl, h⟩⟩
  · intro j3 hj3 h
    rcases bor (Option.isNone p0) with hc1 | hc1
    · have h := h.1 hc1
      refine no_dst (want_no rfl rfl rfl hc1) rfl (by decide) ?_
      refine no_dst (want_no rfl rfl rfl hc1) rfl (by decide) ?_
      refine no_dst (want_no rfl rfl rfl hc1) rfl (by decide) ?_
      refine no_dst (want_undef rfl rfl rfl) rfl (by decide) ?_
      refine no_dst (want_undef rfl rfl rfl) rfl (by decide) ?_
      refine no_dst (want_undef rfl rfl rfl) rfl (by decide) ?_
      refine no_dst (want_no rfl rfl rfl hc1) rfl (by decide) ?_
      refine GoOps.q (v := .bool true) rfl rfl (by decide) (q_pickT (btT rfl hc1) rfl) ?_
      exact hj3 true _ _ h (by exact ⟨rfl, rfl⟩)
    · have h := h.2 hc1
      refine GoOps.q (v := .bool p1) (want_yes rfl rfl rfl hc1) rfl (by decide) (q_move rfl) ?_
      refine GoOps.q (v := .bool (!p1)) (want_yes rfl rfl rfl hc1) rfl (by decide) (q_not rfl) ?_
      refine GoOps.q (v := .bool (!p1)) (want_yes rfl rfl rfl hc1) rfl (by decide) (q_move rfl) ?_
      refine join_ops 4 (fun ρ (s17 : Bool) => ρ 0 = .pointer p0 ∧ ρ 9 = .bool (Option.isNone p0) ∧ ρ 16 = .bool s17) h ?_ ?_ <;> clear h
      · intro s17 H19 ρ h hE
        obtain ⟨e20_0, e20_9, e20_16⟩ := hE
        refine GoOps.q (v := .bool s17) rfl rfl (by decide) (q_pickF (btF e20_9 hc1) e20_16) ?_
        exact hj3 s17 _ _ h (by exact ⟨e20_0, rfl⟩)
      · intro j18 hj18 h
        rcases bor (!p1) with hc16 | hc16
        · have h := h.1 hc16
          refine GoOps.q (v := .pointer p0) (want_yes rfl rfl rfl hc16) rfl (by decide) (q_move rfl) ?_
          refine call_dst (want_yes rfl rfl rfl hc16) (by decide) body48 (usage_Table_Free_s _ _ _ h) rfl ?_
          rintro _ H21 ⟨y22, rfl, h⟩
          refine GoOps.q (v := .bool (decide (y22 ≤ 2))) (want_yes rfl rfl rfl hc16) rfl (by decide) (q_leq rfl rfl) ?_
          refine GoOps.q (v := .bool (decide (y22 ≤ 2))) (want_yes rfl rfl rfl hc1) rfl (by decide) (q_pickT (btT rfl hc16) rfl) ?_
          exact hj18 (decide (y22 ≤ 2)) _ _ h (by exact ⟨rfl, rfl, rfl⟩)
        · have h := h.2 hc16
          refine no_dst (want_no rfl rfl rfl hc16) rfl (by decide) ?_
          refine no_dst (want_no rfl rfl rfl hc16) rfl (by decide) ?_
          refine no_dst (want_no rfl rfl rfl hc16) rfl (by decide) ?_
          refine GoOps.q (v := .bool false) (want_yes rfl rfl rfl hc1) rfl (by decide) (q_pickF (btF rfl hc16) rfl) ?_
          exact hj18 false _ _ h (by exact ⟨rfl, rfl, rfl⟩)

/-- (*keelson.usage.Table).Sealed$1 -/
def usage_Table_Sealed_c1 {γ : Type} (c0 : Addr) (Y : List Value → γ → PH → (Nat → γ → PH → Prop) → Prop) (g : γ) (H : PH) (Q : Nat → γ → PH → Prop) : Prop :=
  mLd .pointer H c0 fun x1 =>
  mIf (Option.isNone x1)
  (Q (0, g).1 (0, g).2 H)
  (mLd .pointer H c0 fun x4 =>
  mNil x4 fun a6 =>
  mLd Sl.v H (a6.add 1) fun x8 =>
  mLoop (fun (s10 : Int × (Nat × γ)) (H13 : PH) (again11 : (Int × (Nat × γ)) → PH → Prop) =>
  mIf (decide (s10.1 < (x8.len : Int)))
  (mLd .pointer H13 c0 fun x15 =>
  mNil x15 fun a17 =>
  mLd Sl.v H13 (a17.add 1) fun x19 =>
  mIdx x19 2 s10.1 fun a21 =>
  mLd (.int .i64) H13 (a21.add 0) fun x23 =>
  mJoin (fun (s26 : Bool × (Nat × γ)) (H28 : PH) =>
  mIf s26.1
  (Q s26.2.1 s26.2.2 H28)
  (again11 (IntKind.wrap .i64 (s10.1 + 1), s26.2) H28))
  fun j27 =>
  mIf (x23 == 2)
  (mYield Y s10.2 [.int .i64 s10.1] H13 fun q31 H32 =>
  j27 (!(q31.1 == 0), q31) H32)
  (j27 (false, s10.2) H13))
  (Q s10.2.1 s10.2.2 H13))
  (0, (0, g)) H)

set_option maxRecDepth 20000 in
set_option maxHeartbeats 1000000 in
theorem usage_Table_Sealed_c1_s {γ : Type} (c0 : Addr) (Y : List Value → γ → PH → (Nat → γ → PH → Prop) → Prop) (g : γ) (H : PH) (Q : Nat → γ → PH → Prop) (h : usage_Table_Sealed_c1 c0 Y g H Q) :
    IterH Try.prog (.func (.func 55) #[] #[.pointer (some c0)]) Y g H Q := by
  unfold usage_Table_Sealed_c1 at h
  refine iterH_of_goM (fi := []) (ca := [.pointer (some c0)]) body55 Try.func55 rfl Try.ntmps55 (Nat.le_of_ble_eq_true rfl) fun l Tk hd hy => ?_
  generalize hyv : Value.func (.yield l) #[] #[] = yv
  intro D M hM hB hA
  refine Go.seq ?_
  refine Go.seq ?_
  refine Go.region rfl ?_
  obtain ⟨x1, hx2, h⟩ := h
  refine GoOps.q (v := .pointer x1) rfl rfl (by decide) (q_load scalar41 rfl hx2) ?_
  refine GoOps.q (v := .bool (Option.isNone x1)) rfl rfl (by decide) (q_eqlPn Try.underlying41 rfl rfl) ?_
  refine GoOps.nil ?_
  rcases bor (Option.isNone x1) with hc3 | hc3
  · have h := h.1 hc3
    refine Go.condT (btT rfl hc3) ?_
    exact Go.retM (g := (0, g)) hM hB hA ⟨.inl rfl, _, (resOk0 Try.results55), h⟩
  · have h := h.2 hc3
    refine Go.condF (btF rfl hc3) ?_
    refine Go.skip ?_
    refine Go.seq ?_
    refine Go.region rfl ?_
    obtain ⟨x4, hx5, h⟩ := h
    refine GoOps.q (v := .pointer x4) rfl rfl (by decide) (q_load scalar41 rfl hx5) ?_
    obtain ⟨a6, ha7, h⟩ := h
    refine GoOps.q (v := .pointer (some a6)) rfl rfl (by decide) (q_nilCheck (ptn rfl ha7)) ?_
    refine GoOps.q (v := .pointer (some (a6.add 1))) rfl rfl (by decide) (q_fieldAddr foff62_1 rfl) ?_
    obtain ⟨x8, hx9, h⟩ := h
    refine GoOps.q (v := Sl.v x8) rfl rfl (by decide) (q_load scalar38 rfl hx9) ?_
    refine GoOps.q (v := .int .i64 (x8.len : Int)) rfl rfl (by decide) (q_len Try.underlying38 rfl (ls1 rfl)) ?_
    refine GoOps.q (v := .int .i64 0) rfl rfl (by decide) (q_move rfl) ?_
    refine GoOps.nil ?_
    refine Go.block ?_
    refine loop_goM (g := (0, g)) (fun s10 => s10.2) (fun ρ (s10 : Int × (Nat × γ)) => ρ 0 = yv ∧ ρ 1 = .pointer (some c0) ∧ ρ 10 = .int .i64 (x8.len : Int) ∧ ρ 11 = .int .i64 s10.1) hM hB hA h ⟨rfl, rfl, rfl, rfl⟩ rfl ?_
    clear h
    intro ρ s10 H13 again11 hE h hagain11
    obtain ⟨e12_0, e12_1, e12_10, e12_11⟩ := hE
    intro D M hM hB hA
    refine Go.seq ?_
    refine Go.region rfl ?_
    refine GoOps.q (v := .bool (decide (s10.1 < (x8.len : Int)))) rfl rfl (by decide) (q_lss e12_11 e12_10) ?_
    refine GoOps.nil ?_
    refine Go.seq ?_
    rcases bor (decide (s10.1 < (x8.len : Int))) with hc14 | hc14
    · have h := h.1 hc14
      refine Go.condT (btT rfl hc14) ?_
      refine Go.skip ?_
      refine Go.seq ?_
      refine Go.block ?_
      refine Go.seq ?_
      refine Go.region rfl ?_
      refine GoOps.q (v := .int .i64 s10.1) rfl rfl (by decide) (q_move e12_11) ?_
      refine GoOps.q (v := .int .i64 s10.1) rfl rfl (by decide) (q_assign rfl) ?_
      refine GoOps.nil ?_
      refine Go.seq ?_
      refine Go.region rfl ?_
      obtain ⟨x15, hx16, h⟩ := h
      refine GoOps.q (v := .pointer x15) rfl rfl (by decide) (q_load scalar41 e12_1 hx16) ?_
      obtain ⟨a17, ha18, h⟩ := h
      refine GoOps.q (v := .pointer (some a17)) rfl rfl (by decide) (q_nilCheck (ptn rfl ha18)) ?_
      refine GoOps.q (v := .pointer (some (a17.add 1))) rfl rfl (by decide) (q_fieldAddr foff62_1 rfl) ?_
      obtain ⟨x19, hx20, h⟩ := h
      refine GoOps.q (v := Sl.v x19) rfl rfl (by decide) (q_load scalar38 rfl hx20) ?_
      refine GoOps.q (v := .int .i64 s10.1) rfl rfl (by decide) (q_move rfl) ?_
      obtain ⟨a21, ha22, h⟩ := h
      refine GoOps.q (v := .pointer (some a21)) rfl rfl (by decide) (q_idx slice38 ha22 rfl rfl) ?_
      refine GoOps.q (v := .pointer (some (a21.add 0))) rfl rfl (by decide) (q_fieldAddr foff40_0 rfl) ?_
      obtain ⟨x23, hx24, h⟩ := h
      refine GoOps.q (v := .int .i64 x23) rfl rfl (by decide) (q_load scalar3 rfl hx24) ?_
      refine GoOps.q (v := .bool (x23 == 2)) rfl rfl (by decide) (q_eql rfl rfl) ?_
      refine GoOps.q (v := .bool (x23 == 2)) rfl rfl (by decide) (q_move rfl) ?_
      refine join_opsM (TT := fun q : Nat × γ => Tk q.1 q.2) (M := M) 5 (fun s26 => s26.2) (fun ρ (s26 : Bool × (Nat × γ)) => ρ 0 = yv ∧ ρ 1 = .pointer (some c0) ∧ ρ 10 = .int .i64 (x8.len : Int) ∧ ρ 11 = .int .i64 s10.1 ∧ ρ 28 = .bool s26.1) h ?_ ?_ <;> clear h
      · intro s26 H28 ρ h hE
        obtain ⟨e29_0, e29_1, e29_10, e29_11, e29_28⟩ := hE
        refine GoOps.nil ?_
        rcases bor s26.1 with hc30 | hc30
        · have h := h.1 hc30
          refine Go.condT (btT e29_28 hc30) ?_
          exact Go.retM (g := s26.2) hM hB hA ⟨.inl rfl, _, (resOk0 Try.results55), h⟩
        · have h := h.2 hc30
          refine Go.condF (btF e29_28 hc30) ?_
          refine Go.skip ?_
          refine Go.inBlock ?_
          refine Go.region rfl ?_
          refine GoOps.q (v := .int .i64 (IntKind.wrap .i64 (s10.1 + 1))) rfl rfl (by decide) (q_add e29_11 rfl) ?_
          refine GoOps.q (v := .int .i64 (IntKind.wrap .i64 (s10.1 + 1))) rfl rfl (by decide) (q_move rfl) ?_
          refine GoOps.nil ?_
          exact hagain11 (IntKind.wrap .i64 (s10.1 + 1), s26.2) _ _ h (by exact ⟨e29_0, e29_1, e29_10, rfl⟩) _ _ hM hB hA
      · intro j27 hj27 h
        rcases bor (x23 == 2) with hc25 | hc25
        · have h := h.1 hc25
          refine GoOps.q (v := yv) (want_yes rfl rfl rfl hc25) rfl (by decide) (q_move e12_0) ?_
          refine GoOps.q (v := .int .i64 s10.1) (want_yes rfl rfl rfl hc25) rfl (by decide) (q_move rfl) ?_
          refine op_dst (want_yes rfl rfl rfl hc25) rfl (by decide) (do_yieldP (q := s10.2) hy hA (Eq.trans rfl hyv.symm) rfl h fun q31 H32 h => ?_) 
          refine GoOps.q (v := .bool (!(q31.1 == 0))) (want_yes rfl rfl rfl hc25) rfl (by decide) (q_not rfl) ?_
          refine GoOps.q (v := .bool (!(q31.1 == 0))) rfl rfl (by decide) (q_pickT (btT rfl hc25) rfl) ?_
          exact hj27 (!(q31.1 == 0), q31) _ _ h (by exact ⟨e12_0, e12_1, e12_10, e12_11, rfl⟩)
        · have h := h.2 hc25
          refine no_dst (want_no rfl rfl rfl hc25) rfl (by decide) ?_
          refine no_dst (want_no rfl rfl rfl hc25) rfl (by decide) ?_
          refine no_dst (want_no rfl rfl rfl hc25) rfl (by decide) ?_
          refine no_dst (want_no rfl rfl rfl hc25) rfl (by decide) ?_
          refine GoOps.q (v := .bool false) rfl rfl (by decide) (q_pickF (btF rfl hc25) rfl) ?_
          exact hj27 (false, s10.2) _ _ h (by exact ⟨e12_0, e12_1, e12_10, e12_11, rfl⟩)
    · have h := h.2 hc14
      refine Go.condF (btF rfl hc14) ?_
      refine Go.exit rfl ?_
      exact Go.fallM (g := s10.2) hM hB hA ⟨.inr rfl, _, (resOk0 Try.results55), h⟩

/-- (*keelson.usage.Table).Sealed -/
def usage_Table_Sealed (p0 : Option Addr) (H : PH) (Q : Value → PH → Prop) : Prop :=
  mNew H (row [.pointer p0] 41) fun a1 H2 =>
  Q (.func (.func 55) #[] #[.pointer (some a1)]) H2

set_option maxRecDepth 20000 in
set_option maxHeartbeats 1000000 in
theorem usage_Table_Sealed_s (p0 : Option Addr) (H : PH) (Q : Value → PH → Prop) (h : usage_Table_Sealed p0 H Q) :
    CallsH Try.prog 43 #[.pointer p0] H (fun v H' => ∃ (r0 : Value), v = r0 ∧ Q r0 H') := by
  unfold usage_Table_Sealed at h
  refine callsH_of_go Try.func43 rfl Try.ntmps43 (Nat.le_of_ble_eq_true rfl) ?_
  refine Go.seq ?_
  refine Go.region rfl ?_
  refine op_dst rfl rfl (by decide) (do_newBox (cs := [.pointer p0]) rfl rfl fun a1 H2 hb3 => ?_) 
  have h := h a1 H2 hb3
  refine GoOps.q (v := .nilFunc) rfl rfl (by decide) (q_assign rfl) ?_
  refine GoOps.nil ?_
  refine Go.seq ?_
  refine Go.region rfl ?_
  refine GoOps.q (v := (.func (.func 55) #[] #[.pointer (some a1)])) rfl rfl (by decide) (q_makeFunc rfl rfl) ?_
  refine GoOps.q (v := (.func (.func 55) #[] #[.pointer (some a1)])) rfl rfl (by decide) (q_assign rfl) ?_
  refine GoOps.nil ?_
  exact Go.ret ⟨.inl rfl, _, _, DOk.nil, (resOk1 Try.results43 rfl), ⟨_, rfl, h⟩⟩

/-- (*keelson.usage.Table).Live -/
def usage_Table_Live (p0 : Option Addr) (p1 : Int) (H : PH) (Q : Int → PH → Prop) : Prop :=
  usage_Table_has p0 p1 H fun y2 H1 =>
  mIf (!y2)
  (Q 0 H1)
  (mNil p0 fun a4 =>
  mLd Sl.v H1 (a4.add 2) fun x6 =>
  mIdx x6 1 p1 fun a8 =>
  mLd (.int .i64) H1 a8 fun x10 =>
  Q x10 H1)

set_option maxRecDepth 20000 in
set_option maxHeartbeats 1000000 in
theorem usage_Table_Live_s (p0 : Option Addr) (p1 : Int) (H : PH) (Q : Int → PH → Prop) (h : usage_Table_Live p0 p1 H Q) :
    CallsH Try.prog 28 #[.pointer p0, .int .i64 p1] H (fun v H' => ∃ (r0 : Int), v = .int .i64 r0 ∧ Q r0 H') := by
  unfold usage_Table_Live at h
  refine callsH_of_go Try.func28 rfl Try.ntmps28 (Nat.le_of_ble_eq_true rfl) ?_
  refine Go.seq ?_
  refine Go.region rfl ?_
  refine GoOps.q (v := .int .i64 0) rfl rfl (by decide) (q_assign rfl) ?_
  refine GoOps.nil ?_
  refine Go.seq ?_
  refine Go.seq ?_
  refine Go.region rfl ?_
  refine GoOps.q (v := .pointer p0) rfl rfl (by decide) (q_move rfl) ?_
  refine GoOps.q (v := .int .i64 p1) rfl rfl (by decide) (q_move rfl) ?_
  refine call_dst rfl (by decide) body47 (usage_Table_has_s _ _ _ _ h) rfl ?_
  rintro _ H1 ⟨y2, rfl, h⟩
  refine GoOps.q (v := .bool (!y2)) rfl rfl (by decide) (q_not rfl) ?_
  refine GoOps.nil ?_
  rcases bor (!y2) with hc3 | hc3
  · have h := h.1 hc3
    refine Go.condT (btT rfl hc3) ?_
    refine Go.seq ?_
    refine Go.region rfl ?_
    refine GoOps.q (v := .int .i64 0) rfl rfl (by decide) (q_assign rfl) ?_
    refine GoOps.nil ?_
    exact Go.ret ⟨.inl rfl, _, _, DOk.nil, (resOk1 Try.results28 rfl), ⟨_, rfl, h⟩⟩
  · have h := h.2 hc3
    refine Go.condF (btF rfl hc3) ?_
    refine Go.skip ?_
    refine Go.seq ?_
    refine Go.region rfl ?_
    refine GoOps.q (v := .pointer p0) rfl rfl (by decide) (q_move rfl) ?_
    obtain ⟨a4, ha5, h⟩ := h
    refine GoOps.q (v := .pointer (some a4)) rfl rfl (by decide) (q_nilCheck (ptn rfl ha5)) ?_
    refine GoOps.q (v := .pointer (some (a4.add 2))) rfl rfl (by decide) (q_fieldAddr foff62_2 rfl) ?_
    obtain ⟨x6, hx7, h⟩ := h
    refine GoOps.q (v := Sl.v x6) rfl rfl (by decide) (q_load scalar30 rfl hx7) ?_
    refine GoOps.q (v := .int .i64 p1) rfl rfl (by decide) (q_move rfl) ?_
    obtain ⟨a8, ha9, h⟩ := h
    refine GoOps.q (v := .pointer (some a8)) rfl rfl (by decide) (q_idx slice30 ha9 rfl rfl) ?_
    obtain ⟨x10, hx11, h⟩ := h
    refine GoOps.q (v := .int .i64 x10) rfl rfl (by decide) (q_load scalar3 rfl hx11) ?_
    refine GoOps.q (v := .int .i64 x10) rfl rfl (by decide) (q_assign rfl) ?_
    refine GoOps.nil ?_
    exact Go.ret ⟨.inl rfl, _, _, DOk.nil, (resOk1 Try.results28 rfl), ⟨_, rfl, h⟩⟩

/-- (*keelson.geom.Geom).Half -/
def geom_Geom_Half (p0 : Option Addr) (H : PH) (Q : Int → PH → Prop) : Prop :=
  mIf (Option.isNone p0)
  (Q 0 H)
  (mNil p0 fun a2 =>
  mLd (.int .i64) H ((a2.add 0).add 2) fun x4 =>
  Q (IntKind.wrap .i64 (Int.tdiv (IntKind.wrap .i64 (x4 - 2)) 2)) H)

set_option maxRecDepth 20000 in
set_option maxHeartbeats 1000000 in
theorem geom_Geom_Half_s (p0 : Option Addr) (H : PH) (Q : Int → PH → Prop) (h : geom_Geom_Half p0 H Q) :
    CallsH Try.prog 29 #[.pointer p0] H (fun v H' => ∃ (r0 : Int), v = .int .i64 r0 ∧ Q r0 H') := by
  unfold geom_Geom_Half at h
  refine callsH_of_go Try.func29 rfl Try.ntmps29 (Nat.le_of_ble_eq_true rfl) ?_
  refine Go.seq ?_
  refine Go.region rfl ?_
  refine GoOps.q (v := .int .i64 0) rfl rfl (by decide) (q_assign rfl) ?_
  refine GoOps.nil ?_
  refine Go.seq ?_
  refine Go.seq ?_
  refine Go.region rfl ?_
  refine GoOps.q (v := .pointer p0) rfl rfl (by decide) (q_move rfl) ?_
  refine GoOps.q (v := .bool (Option.isNone p0)) rfl rfl (by decide) (q_eqlPn Try.underlying34 rfl rfl) ?_
  refine GoOps.nil ?_
  rcases bor (Option.isNone p0) with hc1 | hc1
  · have h := h.1 hc1
    refine Go.condT (btT rfl hc1) ?_
    refine Go.seq ?_
    refine Go.region rfl ?_
    refine GoOps.q (v := .int .i64 0) rfl rfl (by decide) (q_assign rfl) ?_
    refine GoOps.nil ?_
    exact Go.ret ⟨.inl rfl, _, _, DOk.nil, (resOk1 Try.results29 rfl), ⟨_, rfl, h⟩⟩
  · have h := h.2 hc1
    refine Go.condF (btF rfl hc1) ?_
    refine Go.skip ?_
    refine Go.seq ?_
    refine Go.region rfl ?_
    refine GoOps.q (v := .pointer p0) rfl rfl (by decide) (q_move rfl) ?_
    obtain ⟨a2, ha3, h⟩ := h
    refine GoOps.q (v := .pointer (some a2)) rfl rfl (by decide) (q_nilCheck (ptn rfl ha3)) ?_
    refine GoOps.q (v := .pointer (some (a2.add 0))) rfl rfl (by decide) (q_fieldAddr foff59_0 rfl) ?_
    refine GoOps.q (v := .pointer (some ((a2.add 0).add 2))) rfl rfl (by decide) (q_fieldAddr foff32_2 rfl) ?_
    obtain ⟨x4, hx5, h⟩ := h
    refine GoOps.q (v := .int .i64 x4) rfl rfl (by decide) (q_load scalar3 rfl hx5) ?_
    refine GoOps.q (v := .int .i64 (IntKind.wrap .i64 (x4 - 2))) rfl rfl (by decide) (q_sub rfl rfl) ?_
    refine GoOps.q (v := .int .i64 (IntKind.wrap .i64 (Int.tdiv (IntKind.wrap .i64 (x4 - 2)) 2))) rfl rfl (by decide) (q_quo (by decide) rfl rfl) ?_
    refine GoOps.q (v := .int .i64 (IntKind.wrap .i64 (Int.tdiv (IntKind.wrap .i64 (x4 - 2)) 2))) rfl rfl (by decide) (q_assign rfl) ?_
    refine GoOps.nil ?_
    exact Go.ret ⟨.inl rfl, _, _, DOk.nil, (resOk1 Try.results29 rfl), ⟨_, rfl, h⟩⟩

/-- (*keelson.usage.Table).Stamp -/
def usage_Table_Stamp (p0 : Option Addr) (p1 : Int) (H : PH) (Q : Int → PH → Prop) : Prop :=
  usage_Table_has p0 p1 H fun y2 H1 =>
  mIf (!y2)
  (Q 0 H1)
  (mNil p0 fun a4 =>
  mLd Sl.v H1 (a4.add 1) fun x6 =>
  mIdx x6 2 p1 fun a8 =>
  mLd (.int .i64) H1 (a8.add 1) fun x10 =>
  Q x10 H1)

set_option maxRecDepth 20000 in
set_option maxHeartbeats 1000000 in
theorem usage_Table_Stamp_s (p0 : Option Addr) (p1 : Int) (H : PH) (Q : Int → PH → Prop) (h : usage_Table_Stamp p0 p1 H Q) :
    CallsH Try.prog 30 #[.pointer p0, .int .i64 p1] H (fun v H' => ∃ (r0 : Int), v = .int .i64 r0 ∧ Q r0 H') := by
  unfold usage_Table_Stamp at h
  refine callsH_of_go Try.func30 rfl Try.ntmps30 (Nat.le_of_ble_eq_true rfl) ?_
  refine Go.seq ?_
  refine Go.region rfl ?_
  refine GoOps.q (v := .int .i64 0) rfl rfl (by decide) (q_assign rfl) ?_
  refine GoOps.nil ?_
  refine Go.seq ?_
  refine Go.seq ?_
  refine Go.region rfl ?_
  refine GoOps.q (v := .pointer p0) rfl rfl (by decide) (q_move rfl) ?_
  refine GoOps.q (v := .int .i64 p1) rfl rfl (by decide) (q_move rfl) ?_
  refine call_dst rfl (by decide) body47 (usage_Table_has_s _ _ _ _ h) rfl ?_
  rintro _ H1 ⟨y2, rfl, h⟩
  refine GoOps.q (v := .bool (!y2)) rfl rfl (by decide) (q_not rfl) ?_
  refine GoOps.nil ?_
  rcases bor (!y2) with hc3 | hc3
  · have h := h.1 hc3
    refine Go.condT (btT rfl hc3) ?_
    refine Go.seq ?_
    refine Go.region rfl ?_
    refine GoOps.q (v := .int .i64 0) rfl rfl (by decide) (q_assign rfl) ?_
    refine GoOps.nil ?_
    exact Go.ret ⟨.inl rfl, _, _, DOk.nil, (resOk1 Try.results30 rfl), ⟨_, rfl, h⟩⟩
  · have h := h.2 hc3
    refine Go.condF (btF rfl hc3) ?_
    refine Go.skip ?_
    refine Go.seq ?_
    refine Go.region rfl ?_
    refine GoOps.q (v := .pointer p0) rfl rfl (by decide) (q_move rfl) ?_
    obtain ⟨a4, ha5, h⟩ := h
    refine GoOps.q (v := .pointer (some a4)) rfl rfl (by decide) (q_nilCheck (ptn rfl ha5)) ?_
    refine GoOps.q (v := .pointer (some (a4.add 1))) rfl rfl (by decide) (q_fieldAddr foff62_1 rfl) ?_
    obtain ⟨x6, hx7, h⟩ := h
    refine GoOps.q (v := Sl.v x6) rfl rfl (by decide) (q_load scalar38 rfl hx7) ?_
    refine GoOps.q (v := .int .i64 p1) rfl rfl (by decide) (q_move rfl) ?_
    obtain ⟨a8, ha9, h⟩ := h
    refine GoOps.q (v := .pointer (some a8)) rfl rfl (by decide) (q_idx slice38 ha9 rfl rfl) ?_
    refine GoOps.q (v := .pointer (some (a8.add 1))) rfl rfl (by decide) (q_fieldAddr foff40_1 rfl) ?_
    obtain ⟨x10, hx11, h⟩ := h
    refine GoOps.q (v := .int .i64 x10) rfl rfl (by decide) (q_load scalar3 rfl hx11) ?_
    refine GoOps.q (v := .int .i64 x10) rfl rfl (by decide) (q_assign rfl) ?_
    refine GoOps.nil ?_
    exact Go.ret ⟨.inl rfl, _, _, DOk.nil, (resOk1 Try.results30 rfl), ⟨_, rfl, h⟩⟩

/-- keelson.victim.age -/
def victim_age (p0 : Int) (p1 : Int) (H : PH) (Q : Int → PH → Prop) : Prop :=
  mIf (decide (p0 ≤ p1))
  (Q 0 H)
  (Q (if 2147483647 < (IntKind.wrap .i64 (p0 - p1)) then 2147483647 else (IntKind.wrap .i64 (p0 - p1))) H)

set_option maxRecDepth 20000 in
set_option maxHeartbeats 1000000 in
theorem victim_age_s (p0 : Int) (p1 : Int) (H : PH) (Q : Int → PH → Prop) (h : victim_age p0 p1 H Q) :
    CallsH Try.prog 44 #[.int .i64 p0, .int .i64 p1] H (fun v H' => ∃ (r0 : Int), v = .int .i64 r0 ∧ Q r0 H') := by
  unfold victim_age at h
  refine callsH_of_go Try.func44 rfl Try.ntmps44 (Nat.le_of_ble_eq_true rfl) ?_
  refine Go.seq ?_
  refine Go.region rfl ?_
  refine GoOps.q (v := .int .i64 0) rfl rfl (by decide) (q_assign rfl) ?_
  refine GoOps.nil ?_
  refine Go.seq ?_
  refine Go.seq ?_
  refine Go.region rfl ?_
  refine GoOps.q (v := .int .i64 p0) rfl rfl (by decide) (q_move rfl) ?_
  refine GoOps.q (v := .int .i64 p1) rfl rfl (by decide) (q_move rfl) ?_
  refine GoOps.q (v := .bool (decide (p0 ≤ p1))) rfl rfl (by decide) (q_leq rfl rfl) ?_
  refine GoOps.nil ?_
  rcases bor (decide (p0 ≤ p1)) with hc1 | hc1
  · have h := h.1 hc1
    refine Go.condT (btT rfl hc1) ?_
    refine Go.seq ?_
    refine Go.region rfl ?_
    refine GoOps.q (v := .int .i64 0) rfl rfl (by decide) (q_assign rfl) ?_
    refine GoOps.nil ?_
    exact Go.ret ⟨.inl rfl, _, _, DOk.nil, (resOk1 Try.results44 rfl), ⟨_, rfl, h⟩⟩
  · have h := h.2 hc1
    refine Go.condF (btF rfl hc1) ?_
    refine Go.skip ?_
    refine Go.seq ?_
    refine Go.region rfl ?_
    refine GoOps.q (v := .int .i64 p0) rfl rfl (by decide) (q_move rfl) ?_
    refine GoOps.q (v := .int .i64 p1) rfl rfl (by decide) (q_move rfl) ?_
    refine GoOps.q (v := .int .i64 (IntKind.wrap .i64 (p0 - p1))) rfl rfl (by decide) (q_sub rfl rfl) ?_
    refine GoOps.q (v := .int .i64 (if 2147483647 < (IntKind.wrap .i64 (p0 - p1)) then 2147483647 else (IntKind.wrap .i64 (p0 - p1)))) rfl rfl (by decide) (q_min2 rfl) ?_
    refine GoOps.q (v := .int .i64 (if 2147483647 < (IntKind.wrap .i64 (p0 - p1)) then 2147483647 else (IntKind.wrap .i64 (p0 - p1)))) rfl rfl (by decide) (q_assign rfl) ?_
    refine GoOps.nil ?_
    exact Go.ret ⟨.inl rfl, _, _, DOk.nil, (resOk1 Try.results44 rfl), ⟨_, rfl, h⟩⟩

/-- keelson.victim.Better -/
def victim_Better (p0 : (Int × Int × Int)) (p1 : (Int × Int × Int)) (H : PH) (Q : Bool → PH → Prop) : Prop :=
  mNew H (row [.int .i64 p0.1, .int .i64 p0.2.1, .int .i64 p0.2.2] 27) fun a1 H2 =>
  mNew H2 (row [.int .i64 p1.1, .int .i64 p1.2.1, .int .i64 p1.2.2] 27) fun a4 H5 =>
  mIdxA 3 a1 1 0 fun a7 =>
  mLd (.int .i64) H5 a7 fun x9 =>
  mIdxA 3 a4 1 0 fun a11 =>
  mLd (.int .i64) H5 a11 fun x13 =>
  mIf (x9 != x13)
  (mIdxA 3 a1 1 0 fun a16 =>
  mLd (.int .i64) H5 a16 fun x18 =>
  mIdxA 3 a4 1 0 fun a20 =>
  mLd (.int .i64) H5 a20 fun x22 =>
  Q (decide (x22 < x18)) H5)
  (mIdxA 3 a1 1 1 fun a24 =>
  mLd (.int .i64) H5 a24 fun x26 =>
  mIdxA 3 a4 1 1 fun a28 =>
  mLd (.int .i64) H5 a28 fun x30 =>
  mJoin (fun (s33 : Bool) (H35 : PH) =>
  Q s33 H35)
  fun j34 =>
  mIf (decide (x26 < x30))
  (j34 true H5)
  (mIdxA 3 a1 1 1 fun a37 =>
  mLd (.int .i64) H5 a37 fun x39 =>
  mIdxA 3 a4 1 1 fun a41 =>
  mLd (.int .i64) H5 a41 fun x43 =>
  mJoin (fun (s46 : Bool) (H48 : PH) =>
  j34 s46 H48)
  fun j47 =>
  mIf (x39 == x43)
  (mIdxA 3 a1 1 2 fun a50 =>
  mLd (.int .i64) H5 a50 fun x52 =>
  mIdxA 3 a4 1 2 fun a54 =>
  mLd (.int .i64) H5 a54 fun x56 =>
  j47 (decide (x52 < x56)) H5)
  (j47 false H5)))

set_option maxRecDepth 20000 in
set_option maxHeartbeats 1000000 in
theorem victim_Better_s (p0 : (Int × Int × Int)) (p1 : (Int × Int × Int)) (H : PH) (Q : Bool → PH → Prop) (h : victim_Better p0 p1 H Q) :
    CallsH Try.prog 12 #[.agg ([.int .i64 p0.1, .int .i64 p0.2.1, .int .i64 p0.2.2] : List Value).toArray, .agg ([.int .i64 p1.1, .int .i64 p1.2.1, .int .i64 p1.2.2] : List Value).toArray] H (fun v H' => ∃ (r0 : Bool), v = .bool r0 ∧ Q r0 H') := by
  unfold victim_Better at h
  refine callsH_of_go Try.func12 rfl Try.ntmps12 (Nat.le_of_ble_eq_true rfl) ?_
  refine Go.seq ?_
  refine Go.region rfl ?_
  refine op_dst rfl rfl (by decide) (do_newBox (cs := [.int .i64 p0.1, .int .i64 p0.2.1, .int .i64 p0.2.2]) rfl rfl fun a1 H2 hb3 => ?_) 
  have h := h a1 H2 hb3
  refine op_dst rfl rfl (by decide) (do_newBox (cs := [.int .i64 p1.1, .int .i64 p1.2.1, .int .i64 p1.2.2]) rfl rfl fun a4 H5 hb6 => ?_) 
  have h := h a4 H5 hb6
  refine GoOps.q (v := .bool false) rfl rfl (by decide) (q_assign rfl) ?_
  refine GoOps.nil ?_
  refine Go.seq ?_
  refine Go.seq ?_
  refine Go.region rfl ?_
  obtain ⟨a7, ha8, h⟩ := h
  refine GoOps.q (v := .pointer (some a7)) rfl rfl (by decide) (q_idxA array27 ha8 rfl rfl) ?_
  obtain ⟨x9, hx10, h⟩ := h
  refine GoOps.q (v := .int .i64 x9) rfl rfl (by decide) (q_load scalar3 rfl hx10) ?_
  obtain ⟨a11, ha12, h⟩ := h
  refine GoOps.q (v := .pointer (some a11)) rfl rfl (by decide) (q_idxA array27 ha12 rfl rfl) ?_
  obtain ⟨x13, hx14, h⟩ := h
  refine GoOps.q (v := .int .i64 x13) rfl rfl (by decide) (q_load scalar3 rfl hx14) ?_
  refine GoOps.q (v := .bool (x9 != x13)) rfl rfl (by decide) (q_neq rfl rfl) ?_
  refine GoOps.nil ?_
  rcases bor (x9 != x13) with hc15 | hc15
  · have h := h.1 hc15
    refine Go.condT (btT rfl hc15) ?_
    refine Go.seq ?_
    refine Go.region rfl ?_
    obtain ⟨a16, ha17, h⟩ := h
    refine GoOps.q (v := .pointer (some a16)) rfl rfl (by decide) (q_idxA array27 ha17 rfl rfl) ?_
    obtain ⟨x18, hx19, h⟩ := h
    refine GoOps.q (v := .int .i64 x18) rfl rfl (by decide) (q_load scalar3 rfl hx19) ?_
    obtain ⟨a20, ha21, h⟩ := h
    refine GoOps.q (v := .pointer (some a20)) rfl rfl (by decide) (q_idxA array27 ha21 rfl rfl) ?_
    obtain ⟨x22, hx23, h⟩ := h
    refine GoOps.q (v := .int .i64 x22) rfl rfl (by decide) (q_load scalar3 rfl hx23) ?_
    refine GoOps.q (v := .bool (decide (x22 < x18))) rfl rfl (by decide) (q_gtr rfl rfl) ?_
    refine GoOps.q (v := .bool (decide (x22 < x18))) rfl rfl (by decide) (q_assign rfl) ?_
    refine GoOps.nil ?_
    exact Go.ret ⟨.inl rfl, _, _, DOk.nil, (resOk1 Try.results12 rfl), ⟨_, rfl, h⟩⟩
  · have h := h.2 hc15
    refine Go.condF (btF rfl hc15) ?_
    refine Go.skip ?_
    refine Go.seq ?_
    refine Go.region rfl ?_
    obtain ⟨a24, ha25, h⟩ := h
    refine GoOps.q (v := .pointer (some a24)) rfl rfl (by decide) (q_idxA array27 ha25 rfl rfl) ?_
    obtain ⟨x26, hx27, h⟩ := h
    refine GoOps.q (v := .int .i64 x26) rfl rfl (by decide) (q_load scalar3 rfl hx27) ?_
    obtain ⟨a28, ha29, h⟩ := h
    refine GoOps.q (v := .pointer (some a28)) rfl rfl (by decide) (q_idxA array27 ha29 rfl rfl) ?_
    obtain ⟨x30, hx31, h⟩ := h
    refine GoOps.q (v := .int .i64 x30) rfl rfl (by decide) (q_load scalar3 rfl hx31) ?_
    refine GoOps.q (v := .bool (decide (x26 < x30))) rfl rfl (by decide) (q_lss rfl rfl) ?_
    refine GoOps.q (v := .bool (decide (x26 < x30))) rfl rfl (by decide) (q_move rfl) ?_
    refine join_ops 13 (fun ρ (s33 : Bool) => ρ 33 = .bool s33) h ?_ ?_ <;> clear h
    · intro s33 H35 ρ h hE
      have e36_33 := hE
      refine GoOps.q (v := .bool s33) rfl rfl (by decide) (q_assign e36_33) ?_
      refine GoOps.nil ?_
      exact Go.ret ⟨.inl rfl, _, _, DOk.nil, (resOk1 Try.results12 rfl), ⟨_, rfl, h⟩⟩
    · intro j34 hj34 h
      rcases bor (decide (x26 < x30)) with hc32 | hc32
      · have h := h.1 hc32
        refine no_dst (want_no rfl rfl rfl hc32) rfl (by decide) ?_
        refine no_dst (want_no rfl rfl rfl hc32) rfl (by decide) ?_
        refine no_dst (want_no rfl rfl rfl hc32) rfl (by decide) ?_
        refine no_dst (want_no rfl rfl rfl hc32) rfl (by decide) ?_
        refine no_dst (want_no rfl rfl rfl hc32) rfl (by decide) ?_
        refine no_dst (want_no rfl rfl rfl hc32) rfl (by decide) ?_
        refine no_dst (want_undef rfl rfl rfl) rfl (by decide) ?_
        refine no_dst (want_undef rfl rfl rfl) rfl (by decide) ?_
        refine no_dst (want_undef rfl rfl rfl) rfl (by decide) ?_
        refine no_dst (want_undef rfl rfl rfl) rfl (by decide) ?_
        refine no_dst (want_undef rfl rfl rfl) rfl (by decide) ?_
        refine no_dst (want_no rfl rfl rfl hc32) rfl (by decide) ?_
        refine GoOps.q (v := .bool true) rfl rfl (by decide) (q_pickT (btT rfl hc32) rfl) ?_
        exact hj34 true _ _ h (by exact rfl)
      · have h := h.2 hc32
        obtain ⟨a37, ha38, h⟩ := h
        refine GoOps.q (v := .pointer (some a37)) (want_yes rfl rfl rfl hc32) rfl (by decide) (q_idxA array27 ha38 rfl rfl) ?_
        obtain ⟨x39, hx40, h⟩ := h
        refine GoOps.q (v := .int .i64 x39) (want_yes rfl rfl rfl hc32) rfl (by decide) (q_load scalar3 rfl hx40) ?_
        obtain ⟨a41, ha42, h⟩ := h
        refine GoOps.q (v := .pointer (some a41)) (want_yes rfl rfl rfl hc32) rfl (by decide) (q_idxA array27 ha42 rfl rfl) ?_
        obtain ⟨x43, hx44, h⟩ := h
        refine GoOps.q (v := .int .i64 x43) (want_yes rfl rfl rfl hc32) rfl (by decide) (q_load scalar3 rfl hx44) ?_
        refine GoOps.q (v := .bool (x39 == x43)) (want_yes rfl rfl rfl hc32) rfl (by decide) (q_eql rfl rfl) ?_
        refine GoOps.q (v := .bool (x39 == x43)) (want_yes rfl rfl rfl hc32) rfl (by decide) (q_move rfl) ?_
        refine join_ops 6 (fun ρ (s46 : Bool) => ρ 20 = .bool (decide (x26 < x30)) ∧ ρ 32 = .bool s46) h ?_ ?_ <;> clear h
        · intro s46 H48 ρ h hE
          obtain ⟨e49_20, e49_32⟩ := hE
          refine GoOps.q (v := .bool s46) rfl rfl (by decide) (q_pickF (btF e49_20 hc32) e49_32) ?_
          exact hj34 s46 _ _ h (by exact rfl)
        · intro j47 hj47 h
          rcases bor (x39 == x43) with hc45 | hc45
          · have h := h.1 hc45
            obtain ⟨a50, ha51, h⟩ := h
            refine GoOps.q (v := .pointer (some a50)) (want_yes rfl rfl rfl hc45) rfl (by decide) (q_idxA array27 ha51 rfl rfl) ?_
            obtain ⟨x52, hx53, h⟩ := h
            refine GoOps.q (v := .int .i64 x52) (want_yes rfl rfl rfl hc45) rfl (by decide) (q_load scalar3 rfl hx53) ?_
            obtain ⟨a54, ha55, h⟩ := h
            refine GoOps.q (v := .pointer (some a54)) (want_yes rfl rfl rfl hc45) rfl (by decide) (q_idxA array27 ha55 rfl rfl) ?_
            obtain ⟨x56, hx57, h⟩ := h
            refine GoOps.q (v := .int .i64 x56) (want_yes rfl rfl rfl hc45) rfl (by decide) (q_load scalar3 rfl hx57) ?_
            refine GoOps.q (v := .bool (decide (x52 < x56))) (want_yes rfl rfl rfl hc45) rfl (by decide) (q_lss rfl rfl) ?_
            refine GoOps.q (v := .bool (decide (x52 < x56))) (want_yes rfl rfl rfl hc32) rfl (by decide) (q_pickT (btT rfl hc45) rfl) ?_
            exact hj47 (decide (x52 < x56)) _ _ h (by exact ⟨rfl, rfl⟩)
          · have h := h.2 hc45
            refine no_dst (want_no rfl rfl rfl hc45) rfl (by decide) ?_
            refine no_dst (want_no rfl rfl rfl hc45) rfl (by decide) ?_
            refine no_dst (want_no rfl rfl rfl hc45) rfl (by decide) ?_
            refine no_dst (want_no rfl rfl rfl hc45) rfl (by decide) ?_
            refine no_dst (want_no rfl rfl rfl hc45) rfl (by decide) ?_
            refine GoOps.q (v := .bool false) (want_yes rfl rfl rfl hc32) rfl (by decide) (q_pickF (btF rfl hc45) rfl) ?_
            exact hj47 false _ _ h (by exact ⟨rfl, rfl⟩)

/-- keelson.victim.Pick -/
def victim_Pick (p0 : Option Addr) (p1 : Option Addr) (p2 : Int) (H : PH) (Q : Int → Bool → PH → Prop) : Prop :=
  mNew H (row [.pointer p0] 34) fun a1 H2 =>
  mNew H2 (row [.pointer p1] 41) fun a4 H5 =>
  mNew H5 (row [.int .i64 p2] 3) fun a7 H8 =>
  mNew H8 (row [.int .i64 0, .int .i64 0, .int .i64 0] 27) fun a10 H11 =>
  mNew H11 (row [.bool false] 4) fun a13 H14 =>
  mSt H14 a13 ([.bool false]) fun H16 =>
  mLd .pointer H16 a1 fun x18 =>
  mJoin (fun (s21 : Bool) (H23 : PH) =>
  mIf s21
  (Q 0 false H23)
  (mLd .pointer H23 a4 fun x26 =>
  usage_Table_Sealed x26 H23 fun y29 H28 =>
  IterH Try.prog y29 (fun (vs30 : List Value) (q31 : Unit) (H32 : PH) (y33 : Nat → Unit → PH → Prop) =>
  ∃ (x34 : Int), vs30 = [.int .i64 x34] ∧
  mLd .pointer H32 a4 fun x35 =>
  usage_Table_Live x35 x34 H32 fun y38 H37 =>
  mLd .pointer H37 a1 fun x39 =>
  geom_Geom_Half x39 H37 fun y42 H41 =>
  victim_within y38 1 y42 H41 fun y44 H43 =>
  mIf (!y44)
  (y33 0 () H43)
  (mJoin (fun (s46 : Addr) (H48 : PH) =>
  mLd .bool H48 a13 fun x50 =>
  mJoin (fun (s53 : Bool) (H55 : PH) =>
  mIf s53
  (mLdR (fun (x : (Int × Int × Int)) => [.int .i64 x.1, .int .i64 x.2.1, .int .i64 x.2.2]) H55 s46 3 fun x58 =>
  mSt H55 a10 ([.int .i64 x58.1, .int .i64 x58.2.1, .int .i64 x58.2.2]) fun H60 =>
  mSt H60 a13 ([.bool true]) fun H62 =>
  y33 0 () H62)
  (y33 0 () H55))
  fun j54 =>
  mIf (!x50)
  (j54 true H48)
  (mLdR (fun (x : (Int × Int × Int)) => [.int .i64 x.1, .int .i64 x.2.1, .int .i64 x.2.2]) H48 s46 3 fun x64 =>
  mLdR (fun (x : (Int × Int × Int)) => [.int .i64 x.1, .int .i64 x.2.1, .int .i64 x.2.2]) H48 a10 3 fun x66 =>
  victim_Better (x64.1, x64.2.1, x64.2.2) (x66.1, x66.2.1, x66.2.2) H48 fun y69 H68 =>
  j54 y69 H68))
  fun j47 =>
  mLd (.int .i64) H43 a7 fun x70 =>
  mLd .pointer H43 a4 fun x72 =>
  mLd .pointer H43 a1 fun x74 =>
  usage_Table_Stamp x72 x34 H43 fun y77 H76 =>
  mSame H76 a1 (.pointer x74) <|
  mSame H76 a7 (.int .i64 x70) <|
  victim_age x70 y77 H76 fun y81 H80 =>
  mSame H80 a1 (.pointer x74) <|
  geom_Geom_Config x74 H80 fun y84 H83 =>
  victim_Score y38 y81 (IntKind.wrap .i64 (y84.2.2 - 2)) H83 fun y86 H85 =>
  mNew H85 (row [.int .i64 0, .int .i64 0, .int .i64 0] 27) fun a87 H88 =>
  mSt H88 a87 ([.int .i64 y86, .int .i64 y38, .int .i64 x34]) fun H90 =>
  j47 a87 H90)) () H28 fun _ q153 H154 =>
  mIdxA 3 a10 1 2 fun a155 =>
  mLd (.int .i64) H154 a155 fun x157 =>
  mLd .bool H154 a13 fun x159 =>
  Q x157 x159 H154))
  fun j22 =>
  mIf (Option.isNone x18)
  (j22 true H16)
  (mLd .pointer H16 a4 fun x161 =>
  j22 (Option.isNone x161) H16)

set_option maxRecDepth 20000 in
set_option maxHeartbeats 1000000 in
theorem victim_Pick_s (p0 : Option Addr) (p1 : Option Addr) (p2 : Int) (H : PH) (Q : Int → Bool → PH → Prop) (h : victim_Pick p0 p1 p2 H Q) :
    CallsH Try.prog 22 #[.pointer p0, .pointer p1, .int .i64 p2] H (fun v H' => ∃ (r0 : Int) (r1 : Bool), v = .tuple #[.int .i64 r0, .bool r1] ∧ Q r0 r1 H') := by
  unfold victim_Pick at h
  refine callsH_of_goM Try.func22 rfl Try.ntmps22 (Nat.le_of_ble_eq_true rfl) ?_
  intro D M hM hB hA
  refine Go.seq ?_
  refine Go.region rfl ?_
  refine op_dst rfl rfl (by decide) (do_newBox (cs := [.pointer p0]) rfl rfl fun a1 H2 hb3 => ?_) 
  have h := h a1 H2 hb3
  refine op_dst rfl rfl (by decide) (do_newBox (cs := [.pointer p1]) rfl rfl fun a4 H5 hb6 => ?_) 
  have h := h a4 H5 hb6
  refine op_dst rfl rfl (by decide) (do_newBox (cs := [.int .i64 p2]) rfl rfl fun a7 H8 hb9 => ?_) 
  have h := h a7 H8 hb9
  refine GoOps.q (v := .int .i64 0) rfl rfl (by decide) (q_assign rfl) ?_
  refine GoOps.q (v := .bool false) rfl rfl (by decide) (q_assign rfl) ?_
  refine GoOps.nil ?_
  refine Go.seq ?_
  refine Go.region rfl ?_
  refine op_dst rfl rfl (by decide) (do_new zero27 rfl fun a10 H11 hb12 => ?_) 
  have h := h a10 H11 hb12
  refine GoOps.nil ?_
  refine Go.seq ?_
  refine Go.region rfl ?_
  refine op_dst rfl rfl (by decide) (do_new zero4 rfl fun a13 H14 hb15 => ?_) 
  have h := h a13 H14 hb15
  obtain ⟨q17b, q17o, q17c, q17e, hq17a, hq17b, hq17l, hq17v, h⟩ := h
  refine op_none rfl rfl (do_store (vs := [.bool false]) size4 (pta rfl hq17a) rfl rfl rfl hq17v hq17b hq17l ?_) 
  refine GoOps.nil ?_
  refine Go.seq ?_
  refine Go.seq ?_
  refine Go.region rfl ?_
  obtain ⟨x18, hx19, h⟩ := h
  refine GoOps.q (v := .pointer x18) rfl rfl (by decide) (q_load scalar34 rfl hx19) ?_
  refine GoOps.q (v := .bool (Option.isNone x18)) rfl rfl (by decide) (q_eqlPn Try.underlying34 rfl rfl) ?_
  refine GoOps.q (v := .bool (Option.isNone x18)) rfl rfl (by decide) (q_move rfl) ?_
  refine join_ops 3 (fun ρ (s21 : Bool) => ρ 3 = .pointer (some a1) ∧ ρ 4 = .pointer (some a4) ∧ ρ 5 = .pointer (some a7) ∧ ρ 8 = .pointer (some a10) ∧ ρ 9 = .pointer (some a13) ∧ ρ 18 = .bool s21) h ?_ ?_ <;> clear h
  · intro s21 H23 ρ h hE
    obtain ⟨e24_3, e24_4, e24_5, e24_8, e24_9, e24_18⟩ := hE
    refine GoOps.nil ?_
    rcases bor s21 with hc25 | hc25
    · have h := h.1 hc25
      refine Go.condT (btT e24_18 hc25) ?_
      refine Go.seq ?_
      refine Go.region rfl ?_
      refine GoOps.q (v := .int .i64 0) rfl rfl (by decide) (q_assign rfl) ?_
      refine GoOps.q (v := .bool false) rfl rfl (by decide) (q_assign rfl) ?_
      refine GoOps.nil ?_
      exact Go.retM (g := ()) hM hB hA ⟨.inl rfl, _, (resOk2 Try.results22 rfl rfl), ⟨_, _, rfl, h⟩⟩
    · have h := h.2 hc25
      refine Go.condF (btF e24_18 hc25) ?_
      refine Go.skip ?_
      refine Go.seq ?_
      refine Go.seq ?_
      refine Go.region rfl ?_
      obtain ⟨x26, hx27, h⟩ := h
      refine GoOps.q (v := .pointer x26) rfl rfl (by decide) (q_load scalar41 e24_4 hx27) ?_
      refine call_dst rfl (by decide) body43 (usage_Table_Sealed_s _ _ _ h) rfl ?_
      rintro y29 H28 ⟨_, rfl, h⟩
      refine GoOps.nil ?_
      refine Go.block ?_
      refine go_range0 (g := ()) h rfl (fun _ _ _ h => h) rfl hM hB hA trivial ?_ ?_ <;> clear h
      · rintro _ q31 H32 y33 ⟨x34, rfl, h⟩
        refine ⟨rfl, fun lp Bx r hr => ?_⟩
        clear hM hB hA
        intro D M hM hB hA
        refine Go.region rfl ?_
        refine GoOps.q (v := .int .i64 x34) rfl rfl (by decide) (q_assign rfl) ?_
        refine GoOps.nil ?_
        refine go_begin (g := ()) hr hB hA fun M hB hA => ?_
        have hM : Mk (some lp) D M := trivial
        refine Go.block ?_
        refine Go.seq ?_
        refine Go.region rfl ?_
        obtain ⟨x35, hx36, h⟩ := h
        refine GoOps.q (v := .pointer x35) rfl rfl (by decide) (q_load scalar41 e24_4 hx36) ?_
        refine GoOps.q (v := .int .i64 x34) rfl rfl (by decide) (q_move rfl) ?_
        refine call_dst rfl (by decide) body28 (usage_Table_Live_s _ _ _ _ h) rfl ?_
        rintro _ H37 ⟨y38, rfl, h⟩
        refine GoOps.q (v := .int .i64 y38) rfl rfl (by decide) (q_assign rfl) ?_
        refine GoOps.nil ?_
        refine Go.seq ?_
        refine Go.seq ?_
        refine Go.region rfl ?_
        refine GoOps.q (v := .int .i64 y38) rfl rfl (by decide) (q_move rfl) ?_
        obtain ⟨x39, hx40, h⟩ := h
        refine GoOps.q (v := .pointer x39) rfl rfl (by decide) (q_load scalar34 e24_3 hx40) ?_
        refine call_dst rfl (by decide) body29 (geom_Geom_Half_s _ _ _ h) rfl ?_
        rintro _ H41 ⟨y42, rfl, h⟩
        refine call_dst rfl (by decide) body31 (victim_within_s _ _ _ _ _ h) rfl ?_
        rintro _ H43 ⟨y44, rfl, h⟩
        refine GoOps.q (v := .bool (!y44)) rfl rfl (by decide) (q_not rfl) ?_
        refine GoOps.nil ?_
        rcases bor (!y44) with hc45 | hc45
        · have h := h.1 hc45
          refine Go.condT (btT rfl hc45) ?_
          refine Go.exit rfl ?_
          exact Go.fallM (g := ()) hM hB hA ⟨0, rfl, h⟩
        · have h := h.2 hc45
          refine Go.condF (btF rfl hc45) ?_
          refine Go.skip ?_
          refine Go.seq ?_
          refine join_goM 1 (fun _ => ()) (fun ρ (s46 : Addr) => ρ 8 = .pointer (some a10) ∧ ρ 9 = .pointer (some a13) ∧ ρ 12 = .pointer (some s46)) hB h ?_ ?_ <;> clear h
          · intro s46 H48 ρ h hE
            obtain ⟨e49_8, e49_9, e49_12⟩ := hE
            intro D M hM hB hA
            refine Go.seq ?_
            refine Go.region rfl ?_
            obtain ⟨x50, hx51, h⟩ := h
            refine GoOps.q (v := .bool x50) rfl rfl (by decide) (q_load scalar4 e49_9 hx51) ?_
            refine GoOps.q (v := .bool (!x50)) rfl rfl (by decide) (q_not rfl) ?_
            refine GoOps.q (v := .bool (!x50)) rfl rfl (by decide) (q_move rfl) ?_
            refine join_ops 4 (fun ρ (s53 : Bool) => ρ 8 = .pointer (some a10) ∧ ρ 9 = .pointer (some a13) ∧ ρ 12 = .pointer (some s46) ∧ ρ 50 = .bool s53) h ?_ ?_ <;> clear h
            · intro s53 H55 ρ h hE
              obtain ⟨e56_8, e56_9, e56_12, e56_50⟩ := hE
              refine GoOps.nil ?_
              rcases bor s53 with hc57 | hc57
              · have h := h.1 hc57
                refine Go.condT (btT e56_50 hc57) ?_
                refine Go.region rfl ?_
                obtain ⟨x58, hx59, h⟩ := h
                refine GoOps.q (v := .agg ([.int .i64 x58.1, .int .i64 x58.2.1, .int .i64 x58.2.2] : List Value).toArray) rfl rfl (by decide) (q_loadA aggr27 e56_12 hx59) ?_
                obtain ⟨q61b, q61o, q61c, q61e, hq61a, hq61b, hq61l, hq61v, h⟩ := h
                refine op_none rfl rfl (do_store (vs := [.int .i64 x58.1, .int .i64 x58.2.1, .int .i64 x58.2.2]) size27 (pta e56_8 hq61a) rfl rfl rfl hq61v hq61b hq61l ?_) 
                obtain ⟨q63b, q63o, q63c, q63e, hq63a, hq63b, hq63l, hq63v, h⟩ := h
                refine op_none rfl rfl (do_store (vs := [.bool true]) size4 (pta e56_9 hq63a) rfl rfl rfl hq63v hq63b hq63l ?_) 
                refine GoOps.nil ?_
                refine Go.inBlock ?_
                exact Go.fallM (g := ()) hM hB hA ⟨0, rfl, h⟩
              · have h := h.2 hc57
                refine Go.condF (btF e56_50 hc57) ?_
                refine Go.skip ?_
                refine Go.inBlock ?_
                exact Go.fallM (g := ()) hM hB hA ⟨0, rfl, h⟩
            · intro j54 hj54 h
              rcases bor (!x50) with hc52 | hc52
              · have h := h.1 hc52
                refine no_dst (want_no rfl rfl rfl hc52) rfl (by decide) ?_
                refine no_dst (want_no rfl rfl rfl hc52) rfl (by decide) ?_
                refine no_dst (want_no rfl rfl rfl hc52) rfl (by decide) ?_
                refine GoOps.q (v := .bool true) rfl rfl (by decide) (q_pickT (btT rfl hc52) rfl) ?_
                exact hj54 true _ _ h (by exact ⟨e49_8, e49_9, e49_12, rfl⟩)
              · have h := h.2 hc52
                obtain ⟨x64, hx65, h⟩ := h
                refine GoOps.q (v := .agg ([.int .i64 x64.1, .int .i64 x64.2.1, .int .i64 x64.2.2] : List Value).toArray) (want_yes rfl rfl rfl hc52) rfl (by decide) (q_loadA aggr27 e49_12 hx65) ?_
                obtain ⟨x66, hx67, h⟩ := h
                refine GoOps.q (v := .agg ([.int .i64 x66.1, .int .i64 x66.2.1, .int .i64 x66.2.2] : List Value).toArray) (want_yes rfl rfl rfl hc52) rfl (by decide) (q_loadA aggr27 e49_8 hx67) ?_
                refine call_dst (want_yes rfl rfl rfl hc52) (by decide) body12 (victim_Better_s _ _ _ _ h) rfl ?_
                rintro _ H68 ⟨y69, rfl, h⟩
                refine GoOps.q (v := .bool y69) rfl rfl (by decide) (q_pickF (btF rfl hc52) rfl) ?_
                exact hj54 y69 _ _ h (by exact ⟨e49_8, e49_9, e49_12, rfl⟩)
          · intro j47 hj47 h
            refine Go.draw mixed ?_
            refine plan_pure (i := 0) (d := 30) (S2 := 1) (v := .int .i64 y38) rfl (by decide +kernel) rfl (q_move rfl) ?_
            obtain ⟨x70, hx71, h⟩ := h
            refine plan_load (i := 1) (d := 31) (S2 := 3) (v := .int .i64 x70) rfl (by decide +kernel) rfl (q_load scalar3 e24_5 hx71) ?_
            obtain ⟨x72, hx73, h⟩ := h
            refine plan_load (i := 2) (d := 32) (S2 := 7) (v := .pointer x72) rfl (by decide +kernel) rfl (q_load scalar41 e24_4 hx73) ?_
            refine plan_pure (i := 3) (d := 33) (S2 := 15) (v := .int .i64 x34) rfl (by decide +kernel) rfl (q_move rfl) ?_
            obtain ⟨x74, hx75, h⟩ := h
            refine plan_load (i := 6) (d := 36) (S2 := 79) (v := .pointer x74) rfl (by decide +kernel) rfl (q_load scalar34 e24_3 hx75) ?_
            refine plan_pure (i := 11) (d := 41) (S2 := 2127) (v := .int .i64 y38) rfl (by decide +kernel) rfl (q_move rfl) ?_
            refine plan_pure (i := 12) (d := 42) (S2 := 6223) (v := .int .i64 x34) rfl (by decide +kernel) rfl (q_move rfl) ?_
            refine plan_step (R := [4, 14]) (by decide +kernel) ⟨?_, ?_, trivial⟩
            · refine pstep_yes (S2 := 6239) rfl (by decide +kernel) (by decide) rfl ?_
              refine do_call2 body30 (usage_Table_Stamp_s _ _ _ _ h) rfl ?_
              rintro _ H76 ⟨y77, rfl, h⟩
              obtain ⟨hr78, h⟩ := h
              obtain ⟨hr79, h⟩ := h
              refine ⟨_, (.inr ⟨⟨_, _, rfl, rfl, q_load scalar34 e24_3 hr78⟩, _, rfl, .inl ⟨⟨[4], by decide +kernel, rfl⟩, .inr ⟨⟨_, _, rfl, rfl, q_load scalar3 e24_5 hr79⟩, _, rfl, rfl⟩⟩⟩), ?_⟩
              refine plan_step (R := [5, 14]) (by decide +kernel) ⟨?_, ?_, trivial⟩
              · refine pstep_yes (S2 := 6271) rfl (by decide +kernel) (by decide) rfl ?_
                refine do_call2 body44 (victim_age_s _ _ _ _ h) rfl ?_
                rintro _ H80 ⟨y81, rfl, h⟩
                obtain ⟨hr82, h⟩ := h
                refine ⟨_, (.inr ⟨⟨_, _, rfl, rfl, q_load scalar34 e24_3 hr82⟩, _, rfl, .inl ⟨⟨[5], by decide +kernel, rfl⟩, rfl⟩⟩), ?_⟩
                refine plan_step (R := [7, 14]) (by decide +kernel) ⟨?_, ?_, trivial⟩
                · refine pstep_yes (S2 := 6399) rfl (by decide +kernel) (by decide) rfl ?_
                  refine do_call2 body36 (geom_Geom_Config_s _ _ _ h) rfl ?_
                  rintro _ H83 ⟨y84, rfl, h⟩
                  refine ⟨_, (.inl ⟨⟨[7], by decide +kernel, rfl⟩, rfl⟩), ?_⟩
                  refine plan_pure (i := 8) (d := 38) (S2 := 6655) (v := .int .i64 y84.2.2) rfl (by decide +kernel) rfl (q_field fis32_2 scalar3 rfl rfl) ?_
                  refine plan_pure (i := 9) (d := 39) (S2 := 7167) (v := .int .i64 (IntKind.wrap .i64 (y84.2.2 - 2))) rfl (by decide +kernel) rfl (q_sub rfl rfl) ?_
                  refine plan_step (R := [10, 14]) (by decide +kernel) ⟨?_, ?_, trivial⟩
                  · refine pstep_yes (S2 := 8191) rfl (by decide +kernel) (by decide) rfl ?_
                    refine do_call2 body8 (victim_Score_s _ _ _ _ _ h) rfl ?_
                    rintro _ H85 ⟨y86, rfl, h⟩
                    refine ⟨_, rfl, ?_⟩
                    refine plan_pure (i := 13) (d := 43) (S2 := 16383) (v := .agg ([.int .i64 y86, .int .i64 y38, .int .i64 x34] : List Value).toArray) rfl (by decide +kernel) rfl (q_buildA (ps := [(0, .int .i64 y86), (1, .int .i64 y38), (2, .int .i64 x34)]) (cs := [.int .i64 y86, .int .i64 y38, .int .i64 x34]) array27 zero27 rfl rfl rfl) ?_
                    refine plan_one (j := 14) (S2 := 32767) (by decide +kernel) rfl (by decide) rfl ?_
                    refine do_new zero27 rfl fun a87 H88 hb89 => ?_
                    have h := h a87 H88 hb89
                    refine ⟨_, rfl, ?_⟩
                    refine plan_one (j := 15) (S2 := 65535) (by decide +kernel) rfl (by decide) rfl ?_
                    obtain ⟨q91b, q91o, q91c, q91e, hq91a, hq91b, hq91l, hq91v, h⟩ := h
                    refine do_store (vs := [.int .i64 y86, .int .i64 y38, .int .i64 x34]) size27 (pta rfl hq91a) rfl rfl rfl hq91v hq91b hq91l ?_
                    refine ⟨_, rfl, ?_⟩
                    refine plan_done (by decide +kernel) ?_
                    exact hj47 a87 _ _ h (by exact ⟨e24_8, e24_9, rfl⟩) _ _ hM hB hA
                  · refine pstep_yes (S2 := 23551) rfl (by decide +kernel) (by decide) rfl ?_
                    refine do_newT zero27 rfl fun b96 a95 hHb96 hTb96 hrb96 => ?_
                    refine ⟨_, rfl, ?_⟩
                    refine plan_one (j := 10) (S2 := 24575) (by decide +kernel) rfl (by decide) rfl ?_
                    refine do_call2 body8 (victim_Score_s _ _ _ _ _ h) rfl ?_
                    rintro _ H97 ⟨y98, rfl, h⟩
                    refine ⟨_, rfl, ?_⟩
                    refine plan_pure (i := 13) (d := 43) (S2 := 32767) (v := .agg ([.int .i64 y98, .int .i64 y38, .int .i64 x34] : List Value).toArray) rfl (by decide +kernel) rfl (q_buildA (ps := [(0, .int .i64 y98), (1, .int .i64 y38), (2, .int .i64 x34)]) (cs := [.int .i64 y98, .int .i64 y38, .int .i64 x34]) array27 zero27 rfl rfl rfl) ?_
                    refine plan_commit hTb96 fun hh100 => ?_
                    have h := h a95 _ ⟨b96, hh100, hrb96, rfl⟩
                    refine plan_one (j := 15) (S2 := 65535) (by decide +kernel) rfl (by decide) rfl ?_
                    obtain ⟨q102b, q102o, q102c, q102e, hq102a, hq102b, hq102l, hq102v, h⟩ := h
                    refine do_store (vs := [.int .i64 y98, .int .i64 y38, .int .i64 x34]) size27 (pta rfl hq102a) rfl rfl rfl hq102v hq102b hq102l ?_
                    refine ⟨_, rfl, ?_⟩
                    refine plan_done (by decide +kernel) ?_
                    exact hj47 a95 _ _ h (by exact ⟨e24_8, e24_9, rfl⟩) _ _ hM hB hA
                · refine pstep_yes (S2 := 22655) rfl (by decide +kernel) (by decide) rfl ?_
                  refine do_newT zero27 rfl fun b107 a106 hHb107 hTb107 hrb107 => ?_
                  refine ⟨_, (.inr ⟨⟨_, _, rfl, rfl, q_load scalar34 e24_3 hr82⟩, _, rfl, rfl⟩), ?_⟩
                  refine plan_one (j := 7) (S2 := 22783) (by decide +kernel) rfl (by decide) rfl ?_
                  refine do_call2 body36 (geom_Geom_Config_s _ _ _ h) rfl ?_
                  rintro _ H108 ⟨y109, rfl, h⟩
                  refine ⟨_, (.inl ⟨⟨[7], by decide +kernel, rfl⟩, rfl⟩), ?_⟩
                  refine plan_pure (i := 8) (d := 38) (S2 := 23039) (v := .int .i64 y109.2.2) rfl (by decide +kernel) rfl (q_field fis32_2 scalar3 rfl rfl) ?_
                  refine plan_pure (i := 9) (d := 39) (S2 := 23551) (v := .int .i64 (IntKind.wrap .i64 (y109.2.2 - 2))) rfl (by decide +kernel) rfl (q_sub rfl rfl) ?_
                  refine plan_one (j := 10) (S2 := 24575) (by decide +kernel) rfl (by decide) rfl ?_
                  refine do_call2 body8 (victim_Score_s _ _ _ _ _ h) rfl ?_
                  rintro _ H110 ⟨y111, rfl, h⟩
                  refine ⟨_, rfl, ?_⟩
                  refine plan_pure (i := 13) (d := 43) (S2 := 32767) (v := .agg ([.int .i64 y111, .int .i64 y38, .int .i64 x34] : List Value).toArray) rfl (by decide +kernel) rfl (q_buildA (ps := [(0, .int .i64 y111), (1, .int .i64 y38), (2, .int .i64 x34)]) (cs := [.int .i64 y111, .int .i64 y38, .int .i64 x34]) array27 zero27 rfl rfl rfl) ?_
                  refine plan_commit hTb107 fun hh113 => ?_
                  have h := h a106 _ ⟨b107, hh113, hrb107, rfl⟩
                  refine plan_one (j := 15) (S2 := 65535) (by decide +kernel) rfl (by decide) rfl ?_
                  obtain ⟨q115b, q115o, q115c, q115e, hq115a, hq115b, hq115l, hq115v, h⟩ := h
                  refine do_store (vs := [.int .i64 y111, .int .i64 y38, .int .i64 x34]) size27 (pta rfl hq115a) rfl rfl rfl hq115v hq115b hq115l ?_
                  refine ⟨_, rfl, ?_⟩
                  refine plan_done (by decide +kernel) ?_
                  exact hj47 a106 _ _ h (by exact ⟨e24_8, e24_9, rfl⟩) _ _ hM hB hA
              · refine pstep_yes (S2 := 22623) rfl (by decide +kernel) (by decide) rfl ?_
                refine do_newT zero27 rfl fun b120 a119 hHb120 hTb120 hrb120 => ?_
                refine ⟨_, (.inr ⟨⟨_, _, rfl, rfl, q_load scalar34 e24_3 hr78⟩, _, rfl, .inr ⟨⟨_, _, rfl, rfl, q_load scalar3 e24_5 hr79⟩, _, rfl, rfl⟩⟩), ?_⟩
                refine plan_one (j := 5) (S2 := 22655) (by decide +kernel) rfl (by decide) rfl ?_
                refine do_call2 body44 (victim_age_s _ _ _ _ h) rfl ?_
                rintro _ H121 ⟨y122, rfl, h⟩
                obtain ⟨hr123, h⟩ := h
                refine ⟨_, (.inr ⟨⟨_, _, rfl, rfl, q_load scalar34 e24_3 hr123⟩, _, rfl, .inl ⟨⟨[5], by decide +kernel, rfl⟩, rfl⟩⟩), ?_⟩
                refine plan_one (j := 7) (S2 := 22783) (by decide +kernel) rfl (by decide) rfl ?_
                refine do_call2 body36 (geom_Geom_Config_s _ _ _ h) rfl ?_
                rintro _ H124 ⟨y125, rfl, h⟩
                refine ⟨_, (.inl ⟨⟨[7], by decide +kernel, rfl⟩, rfl⟩), ?_⟩
                refine plan_pure (i := 8) (d := 38) (S2 := 23039) (v := .int .i64 y125.2.2) rfl (by decide +kernel) rfl (q_field fis32_2 scalar3 rfl rfl) ?_
                refine plan_pure (i := 9) (d := 39) (S2 := 23551) (v := .int .i64 (IntKind.wrap .i64 (y125.2.2 - 2))) rfl (by decide +kernel) rfl (q_sub rfl rfl) ?_
                refine plan_one (j := 10) (S2 := 24575) (by decide +kernel) rfl (by decide) rfl ?_
                refine do_call2 body8 (victim_Score_s _ _ _ _ _ h) rfl ?_
                rintro _ H126 ⟨y127, rfl, h⟩
                refine ⟨_, rfl, ?_⟩
                refine plan_pure (i := 13) (d := 43) (S2 := 32767) (v := .agg ([.int .i64 y127, .int .i64 y38, .int .i64 x34] : List Value).toArray) rfl (by decide +kernel) rfl (q_buildA (ps := [(0, .int .i64 y127), (1, .int .i64 y38), (2, .int .i64 x34)]) (cs := [.int .i64 y127, .int .i64 y38, .int .i64 x34]) array27 zero27 rfl rfl rfl) ?_
                refine plan_commit hTb120 fun hh129 => ?_
                have h := h a119 _ ⟨b120, hh129, hrb120, rfl⟩
                refine plan_one (j := 15) (S2 := 65535) (by decide +kernel) rfl (by decide) rfl ?_
                obtain ⟨q131b, q131o, q131c, q131e, hq131a, hq131b, hq131l, hq131v, h⟩ := h
                refine do_store (vs := [.int .i64 y127, .int .i64 y38, .int .i64 x34]) size27 (pta rfl hq131a) rfl rfl rfl hq131v hq131b hq131l ?_
                refine ⟨_, rfl, ?_⟩
                refine plan_done (by decide +kernel) ?_
                exact hj47 a119 _ _ h (by exact ⟨e24_8, e24_9, rfl⟩) _ _ hM hB hA
            · refine pstep_yes (S2 := 22607) rfl (by decide +kernel) (by decide) rfl ?_
              refine do_newT zero27 rfl fun b136 a135 hHb136 hTb136 hrb136 => ?_
              refine ⟨_, (.inr ⟨⟨_, _, rfl, rfl, q_load scalar34 e24_3 hx75⟩, _, rfl, .inr ⟨⟨_, _, rfl, rfl, q_load scalar41 e24_4 hx73⟩, _, rfl, .inr ⟨⟨_, _, rfl, rfl, q_load scalar3 e24_5 hx71⟩, _, rfl, rfl⟩⟩⟩), ?_⟩
              refine plan_one (j := 4) (S2 := 22623) (by decide +kernel) rfl (by decide) rfl ?_
              refine do_call2 body30 (usage_Table_Stamp_s _ _ _ _ h) rfl ?_
              rintro _ H137 ⟨y138, rfl, h⟩
              obtain ⟨hr139, h⟩ := h
              obtain ⟨hr140, h⟩ := h
              refine ⟨_, (.inr ⟨⟨_, _, rfl, rfl, q_load scalar34 e24_3 hr139⟩, _, rfl, .inl ⟨⟨[4], by decide +kernel, rfl⟩, .inr ⟨⟨_, _, rfl, rfl, q_load scalar3 e24_5 hr140⟩, _, rfl, rfl⟩⟩⟩), ?_⟩
              refine plan_one (j := 5) (S2 := 22655) (by decide +kernel) rfl (by decide) rfl ?_
              refine do_call2 body44 (victim_age_s _ _ _ _ h) rfl ?_
              rintro _ H141 ⟨y142, rfl, h⟩
              obtain ⟨hr143, h⟩ := h
              refine ⟨_, (.inr ⟨⟨_, _, rfl, rfl, q_load scalar34 e24_3 hr143⟩, _, rfl, .inl ⟨⟨[5], by decide +kernel, rfl⟩, rfl⟩⟩), ?_⟩
              refine plan_one (j := 7) (S2 := 22783) (by decide +kernel) rfl (by decide) rfl ?_
              refine do_call2 body36 (geom_Geom_Config_s _ _ _ h) rfl ?_
              rintro _ H144 ⟨y145, rfl, h⟩
              refine ⟨_, (.inl ⟨⟨[7], by decide +kernel, rfl⟩, rfl⟩), ?_⟩
              refine plan_pure (i := 8) (d := 38) (S2 := 23039) (v := .int .i64 y145.2.2) rfl (by decide +kernel) rfl (q_field fis32_2 scalar3 rfl rfl) ?_
              refine plan_pure (i := 9) (d := 39) (S2 := 23551) (v := .int .i64 (IntKind.wrap .i64 (y145.2.2 - 2))) rfl (by decide +kernel) rfl (q_sub rfl rfl) ?_
              refine plan_one (j := 10) (S2 := 24575) (by decide +kernel) rfl (by decide) rfl ?_
              refine do_call2 body8 (victim_Score_s _ _ _ _ _ h) rfl ?_
              rintro _ H146 ⟨y147, rfl, h⟩
              refine ⟨_, rfl, ?_⟩
              refine plan_pure (i := 13) (d := 43) (S2 := 32767) (v := .agg ([.int .i64 y147, .int .i64 y38, .int .i64 x34] : List Value).toArray) rfl (by decide +kernel) rfl (q_buildA (ps := [(0, .int .i64 y147), (1, .int .i64 y38), (2, .int .i64 x34)]) (cs := [.int .i64 y147, .int .i64 y38, .int .i64 x34]) array27 zero27 rfl rfl rfl) ?_
              refine plan_commit hTb136 fun hh149 => ?_
              have h := h a135 _ ⟨b136, hh149, hrb136, rfl⟩
              refine plan_one (j := 15) (S2 := 65535) (by decide +kernel) rfl (by decide) rfl ?_
              obtain ⟨q151b, q151o, q151c, q151e, hq151a, hq151b, hq151l, hq151v, h⟩ := h
              refine do_store (vs := [.int .i64 y147, .int .i64 y38, .int .i64 x34]) size27 (pta rfl hq151a) rfl rfl rfl hq151v hq151b hq151l ?_
              refine ⟨_, rfl, ?_⟩
              refine plan_done (by decide +kernel) ?_
              exact hj47 a135 _ _ h (by exact ⟨e24_8, e24_9, rfl⟩) _ _ hM hB hA
      · intro q153 H154 h
        intro D M hM hB hA
        refine Go.inBlock ?_
        refine Go.seq ?_
        refine Go.draw mixed ?_
        obtain ⟨a155, ha156, h⟩ := h
        refine plan_pure (i := 0) (d := 52) (S2 := 1) (v := .pointer (some a155)) rfl (by decide +kernel) rfl (q_idxA array27 ha156 e24_8 rfl) ?_
        obtain ⟨x157, hx158, h⟩ := h
        refine plan_load (i := 1) (d := 53) (S2 := 3) (v := .int .i64 x157) rfl (by decide +kernel) rfl (q_load scalar3 rfl hx158) ?_
        obtain ⟨x159, hx160, h⟩ := h
        refine plan_load (i := 2) (d := 54) (S2 := 7) (v := .bool x159) rfl (by decide +kernel) rfl (q_load scalar4 e24_9 hx160) ?_
        refine plan_pure (i := 3) (d := 6) (S2 := 15) (v := .int .i64 x157) rfl (by decide +kernel) rfl (q_assign rfl) ?_
        refine plan_pure (i := 4) (d := 7) (S2 := 31) (v := .bool x159) rfl (by decide +kernel) rfl (q_assign rfl) ?_
        refine plan_done (by decide +kernel) ?_
        exact Go.retM (g := ()) hM hB hA ⟨.inl rfl, _, (resOk2 Try.results22 rfl rfl), ⟨_, _, rfl, h⟩⟩
  · intro j22 hj22 h
    rcases bor (Option.isNone x18) with hc20 | hc20
    · have h := h.1 hc20
      refine no_dst (want_no rfl rfl rfl hc20) rfl (by decide) ?_
      refine no_dst (want_no rfl rfl rfl hc20) rfl (by decide) ?_
      refine GoOps.q (v := .bool true) rfl rfl (by decide) (q_pickT (btT rfl hc20) rfl) ?_
      exact hj22 true _ _ h (by exact ⟨rfl, rfl, rfl, rfl, rfl, rfl⟩)
    · have h := h.2 hc20
      obtain ⟨x161, hx162, h⟩ := h
      refine GoOps.q (v := .pointer x161) (want_yes rfl rfl rfl hc20) rfl (by decide) (q_load scalar41 rfl hx162) ?_
      refine GoOps.q (v := .bool (Option.isNone x161)) (want_yes rfl rfl rfl hc20) rfl (by decide) (q_eqlPn Try.underlying41 rfl rfl) ?_
      refine GoOps.q (v := .bool (Option.isNone x161)) rfl rfl (by decide) (q_pickF (btF rfl hc20) rfl) ?_
      exact hj22 (Option.isNone x161) _ _ h (by exact ⟨rfl, rfl, rfl, rfl, rfl, rfl⟩)

/-- (*keelson.usage.Table).Seal -/
def usage_Table_Seal (p0 : Option Addr) (p1 : Int) (H : PH) (Q : PH → Prop) : Prop :=
  usage_Table_has p0 p1 H fun y2 H1 =>
  mJoin (fun (s4 : Bool) (H6 : PH) =>
  mIf s4
  (mNil p0 fun a9 =>
  mLd Sl.v H6 (a9.add 1) fun x11 =>
  mIdx x11 2 p1 fun a13 =>
  mSt H6 (a13.add 0) ([.int .i64 2]) fun H15 =>
  Q H15)
  (Q H6))
  fun j5 =>
  mIf y2
  (mNil p0 fun a17 =>
  mLd Sl.v H1 (a17.add 1) fun x19 =>
  mIdx x19 2 p1 fun a21 =>
  mLd (.int .i64) H1 (a21.add 0) fun x23 =>
  j5 (x23 == 1) H1)
  (j5 false H1)

set_option maxRecDepth 20000 in
set_option maxHeartbeats 1000000 in
theorem usage_Table_Seal_s (p0 : Option Addr) (p1 : Int) (H : PH) (Q : PH → Prop) (h : usage_Table_Seal p0 p1 H Q) :
    CallsH Try.prog 25 #[.pointer p0, .int .i64 p1] H (fun v H' => v = .tuple #[] ∧ Q H') := by
  unfold usage_Table_Seal at h
  refine callsH_of_go Try.func25 rfl Try.ntmps25 (Nat.le_of_ble_eq_true rfl) ?_
  refine Go.seq ?_
  refine Go.region rfl ?_
  refine GoOps.q (v := .pointer p0) rfl rfl (by decide) (q_move rfl) ?_
  refine GoOps.q (v := .int .i64 p1) rfl rfl (by decide) (q_move rfl) ?_
  refine call_dst rfl (by decide) body47 (usage_Table_has_s _ _ _ _ h) rfl ?_
  rintro _ H1 ⟨y2, rfl, h⟩
  refine GoOps.q (v := .bool y2) rfl rfl (by decide) (q_move rfl) ?_
  refine join_ops 10 (fun ρ (s4 : Bool) => ρ 0 = .pointer p0 ∧ ρ 1 = .int .i64 p1 ∧ ρ 17 = .bool s4) h ?_ ?_ <;> clear h
  · intro s4 H6 ρ h hE
    obtain ⟨e7_0, e7_1, e7_17⟩ := hE
    refine GoOps.nil ?_
    rcases bor s4 with hc8 | hc8
    · have h := h.1 hc8
      refine Go.condT (btT e7_17 hc8) ?_
      refine Go.region rfl ?_
      refine GoOps.q (v := .pointer p0) rfl rfl (by decide) (q_move e7_0) ?_
      obtain ⟨a9, ha10, h⟩ := h
      refine GoOps.q (v := .pointer (some a9)) rfl rfl (by decide) (q_nilCheck (ptn rfl ha10)) ?_
      refine GoOps.q (v := .pointer (some (a9.add 1))) rfl rfl (by decide) (q_fieldAddr foff62_1 rfl) ?_
      obtain ⟨x11, hx12, h⟩ := h
      refine GoOps.q (v := Sl.v x11) rfl rfl (by decide) (q_load scalar38 rfl hx12) ?_
      refine GoOps.q (v := .int .i64 p1) rfl rfl (by decide) (q_move e7_1) ?_
      obtain ⟨a13, ha14, h⟩ := h
      refine GoOps.q (v := .pointer (some a13)) rfl rfl (by decide) (q_idx slice38 ha14 rfl rfl) ?_
      refine GoOps.q (v := .pointer (some (a13.add 0))) rfl rfl (by decide) (q_fieldAddr foff40_0 rfl) ?_
      obtain ⟨q16b, q16o, q16c, q16e, hq16a, hq16b, hq16l, hq16v, h⟩ := h
      refine op_none rfl rfl (do_store (vs := [.int .i64 2]) size3 (pta rfl hq16a) rfl rfl rfl hq16v hq16b hq16l ?_) 
      refine GoOps.nil ?_
      exact Go.fall ⟨.inr rfl, _, _, DOk.nil, (resOk0 Try.results25), ⟨rfl, h⟩⟩
    · have h := h.2 hc8
      refine Go.condF (btF e7_17 hc8) ?_
      refine Go.skip ?_
      exact Go.fall ⟨.inr rfl, _, _, DOk.nil, (resOk0 Try.results25), ⟨rfl, h⟩⟩
  · intro j5 hj5 h
    rcases bor y2 with hc3 | hc3
    · have h := h.1 hc3
      refine GoOps.q (v := .pointer p0) (want_yes rfl rfl rfl hc3) rfl (by decide) (q_move rfl) ?_
      obtain ⟨a17, ha18, h⟩ := h
      refine GoOps.q (v := .pointer (some a17)) (want_yes rfl rfl rfl hc3) rfl (by decide) (q_nilCheck (ptn rfl ha18)) ?_
      refine GoOps.q (v := .pointer (some (a17.add 1))) (want_yes rfl rfl rfl hc3) rfl (by decide) (q_fieldAddr foff62_1 rfl) ?_
      obtain ⟨x19, hx20, h⟩ := h
      refine GoOps.q (v := Sl.v x19) (want_yes rfl rfl rfl hc3) rfl (by decide) (q_load scalar38 rfl hx20) ?_
      refine GoOps.q (v := .int .i64 p1) (want_yes rfl rfl rfl hc3) rfl (by decide) (q_move rfl) ?_
      obtain ⟨a21, ha22, h⟩ := h
      refine GoOps.q (v := .pointer (some a21)) (want_yes rfl rfl rfl hc3) rfl (by decide) (q_idx slice38 ha22 rfl rfl) ?_
      refine GoOps.q (v := .pointer (some (a21.add 0))) (want_yes rfl rfl rfl hc3) rfl (by decide) (q_fieldAddr foff40_0 rfl) ?_
      obtain ⟨x23, hx24, h⟩ := h
      refine GoOps.q (v := .int .i64 x23) (want_yes rfl rfl rfl hc3) rfl (by decide) (q_load scalar3 rfl hx24) ?_
      refine GoOps.q (v := .bool (x23 == 1)) (want_yes rfl rfl rfl hc3) rfl (by decide) (q_eql rfl rfl) ?_
      refine GoOps.q (v := .bool (x23 == 1)) rfl rfl (by decide) (q_pickT (btT rfl hc3) rfl) ?_
      exact hj5 (x23 == 1) _ _ h (by exact ⟨rfl, rfl, rfl⟩)
    · have h := h.2 hc3
      refine no_dst (want_no rfl rfl rfl hc3) rfl (by decide) ?_
      refine no_dst (want_no rfl rfl rfl hc3) rfl (by decide) ?_
      refine no_dst (want_no rfl rfl rfl hc3) rfl (by decide) ?_
      refine no_dst (want_no rfl rfl rfl hc3) rfl (by decide) ?_
      refine no_dst (want_no rfl rfl rfl hc3) rfl (by decide) ?_
      refine no_dst (want_no rfl rfl rfl hc3) rfl (by decide) ?_
      refine no_dst (want_no rfl rfl rfl hc3) rfl (by decide) ?_
      refine no_dst (want_no rfl rfl rfl hc3) rfl (by decide) ?_
      refine no_dst (want_no rfl rfl rfl hc3) rfl (by decide) ?_
      refine GoOps.q (v := .bool false) rfl rfl (by decide) (q_pickF (btF rfl hc3) rfl) ?_
      exact hj5 false _ _ h (by exact ⟨rfl, rfl, rfl⟩)

/-- (*keelson.geom.Geom).Has -/
def geom_Geom_Has (p0 : Option Addr) (p1 : Int) (H : PH) (Q : Bool → PH → Prop) : Prop :=
  mJoin (fun (s2 : Bool) (H4 : PH) =>
  Q s2 H4)
  fun j3 =>
  mIf (!(Option.isNone p0))
  (mNil p0 fun a6 =>
  mLd (.int .i64) H ((a6.add 0).add 1) fun x8 =>
  geom_within p1 0 (IntKind.wrap .i64 (x8 - 1)) H fun y11 H10 =>
  j3 y11 H10)
  (j3 false H)

set_option maxRecDepth 20000 in
set_option maxHeartbeats 1000000 in
theorem geom_Geom_Has_s (p0 : Option Addr) (p1 : Int) (H : PH) (Q : Bool → PH → Prop) (h : geom_Geom_Has p0 p1 H Q) :
    CallsH Try.prog 38 #[.pointer p0, .int .i64 p1] H (fun v H' => ∃ (r0 : Bool), v = .bool r0 ∧ Q r0 H') := by
  unfold geom_Geom_Has at h
  refine callsH_of_go Try.func38 rfl Try.ntmps38 (Nat.le_of_ble_eq_true rfl) ?_
  refine Go.seq ?_
  refine Go.region rfl ?_
  refine GoOps.q (v := .bool false) rfl rfl (by decide) (q_assign rfl) ?_
  refine GoOps.nil ?_
  refine Go.seq ?_
  refine Go.region rfl ?_
  refine GoOps.q (v := .pointer p0) rfl rfl (by decide) (q_move rfl) ?_
  refine GoOps.q (v := .bool (!(Option.isNone p0))) rfl rfl (by decide) (q_neqPn Try.underlying34 rfl rfl) ?_
  refine GoOps.q (v := .bool (!(Option.isNone p0))) rfl rfl (by decide) (q_move rfl) ?_
  refine join_ops 9 (fun ρ (s2 : Bool) => ρ 16 = .bool s2) h ?_ ?_ <;> clear h
  · intro s2 H4 ρ h hE
    have e5_16 := hE
    refine GoOps.q (v := .bool s2) rfl rfl (by decide) (q_assign e5_16) ?_
    refine GoOps.nil ?_
    exact Go.ret ⟨.inl rfl, _, _, DOk.nil, (resOk1 Try.results38 rfl), ⟨_, rfl, h⟩⟩
  · intro j3 hj3 h
    rcases bor (!(Option.isNone p0)) with hc1 | hc1
    · have h := h.1 hc1
      refine GoOps.q (v := .int .i64 p1) (want_yes rfl rfl rfl hc1) rfl (by decide) (q_move rfl) ?_
      refine GoOps.q (v := .pointer p0) (want_yes rfl rfl rfl hc1) rfl (by decide) (q_move rfl) ?_
      obtain ⟨a6, ha7, h⟩ := h
      refine GoOps.q (v := .pointer (some a6)) (want_yes rfl rfl rfl hc1) rfl (by decide) (q_nilCheck (ptn rfl ha7)) ?_
      refine GoOps.q (v := .pointer (some (a6.add 0))) (want_yes rfl rfl rfl hc1) rfl (by decide) (q_fieldAddr foff59_0 rfl) ?_
      refine GoOps.q (v := .pointer (some ((a6.add 0).add 1))) (want_yes rfl rfl rfl hc1) rfl (by decide) (q_fieldAddr foff32_1 rfl) ?_
      obtain ⟨x8, hx9, h⟩ := h
      refine GoOps.q (v := .int .i64 x8) (want_yes rfl rfl rfl hc1) rfl (by decide) (q_load scalar3 rfl hx9) ?_
      refine GoOps.q (v := .int .i64 (IntKind.wrap .i64 (x8 - 1))) (want_yes rfl rfl rfl hc1) rfl (by decide) (q_sub rfl rfl) ?_
      refine call_dst (want_yes rfl rfl rfl hc1) (by decide) body35 (geom_within_s _ _ _ _ _ h) rfl ?_
      rintro _ H10 ⟨y11, rfl, h⟩
      refine GoOps.q (v := .bool y11) rfl rfl (by decide) (q_pickT (btT rfl hc1) rfl) ?_
      exact hj3 y11 _ _ h (by exact rfl)
    · have h := h.2 hc1
      refine no_dst (want_no rfl rfl rfl hc1) rfl (by decide) ?_
      refine no_dst (want_no rfl rfl rfl hc1) rfl (by decide) ?_
      refine no_dst (want_no rfl rfl rfl hc1) rfl (by decide) ?_
      refine no_dst (want_no rfl rfl rfl hc1) rfl (by decide) ?_
      refine no_dst (want_no rfl rfl rfl hc1) rfl (by decide) ?_
      refine no_dst (want_no rfl rfl rfl hc1) rfl (by decide) ?_
      refine no_dst (want_no rfl rfl rfl hc1) rfl (by decide) ?_
      refine no_dst (want_no rfl rfl rfl hc1) rfl (by decide) ?_
      refine GoOps.q (v := .bool false) rfl rfl (by decide) (q_pickF (btF rfl hc1) rfl) ?_
      exact hj3 false _ _ h (by exact rfl)

/-- keelson.geom.up -/
def geom_up (p0 : Int) (p1 : Int) (H : PH) (Q : Int → PH → Prop) : Prop :=
  mNe p1 <|
  Q (IntKind.wrap .i64 (Int.tdiv (IntKind.wrap .i64 ((IntKind.wrap .i64 (p0 + p1)) - 1)) p1)) H

set_option maxRecDepth 20000 in
set_option maxHeartbeats 1000000 in
theorem geom_up_s (p0 : Int) (p1 : Int) (H : PH) (Q : Int → PH → Prop) (h : geom_up p0 p1 H Q) :
    CallsH Try.prog 56 #[.int .i64 p0, .int .i64 p1] H (fun v H' => ∃ (r0 : Int), v = .int .i64 r0 ∧ Q r0 H') := by
  unfold geom_up at h
  refine callsH_of_go Try.func56 rfl Try.ntmps56 (Nat.le_of_ble_eq_true rfl) ?_
  refine Go.seq ?_
  refine Go.region rfl ?_
  refine GoOps.q (v := .int .i64 0) rfl rfl (by decide) (q_assign rfl) ?_
  refine GoOps.nil ?_
  refine Go.seq ?_
  refine Go.region rfl ?_
  refine GoOps.q (v := .int .i64 p0) rfl rfl (by decide) (q_move rfl) ?_
  refine GoOps.q (v := .int .i64 p1) rfl rfl (by decide) (q_move rfl) ?_
  refine GoOps.q (v := .int .i64 (IntKind.wrap .i64 (p0 + p1))) rfl rfl (by decide) (q_add rfl rfl) ?_
  refine GoOps.q (v := .int .i64 (IntKind.wrap .i64 ((IntKind.wrap .i64 (p0 + p1)) - 1))) rfl rfl (by decide) (q_sub rfl rfl) ?_
  refine GoOps.q (v := .int .i64 p1) rfl rfl (by decide) (q_move rfl) ?_
  obtain ⟨hn1, h⟩ := h
  refine GoOps.q (v := .int .i64 (IntKind.wrap .i64 (Int.tdiv (IntKind.wrap .i64 ((IntKind.wrap .i64 (p0 + p1)) - 1)) p1))) rfl rfl (by decide) (q_quo hn1 rfl rfl) ?_
  refine GoOps.q (v := .int .i64 (IntKind.wrap .i64 (Int.tdiv (IntKind.wrap .i64 ((IntKind.wrap .i64 (p0 + p1)) - 1)) p1))) rfl rfl (by decide) (q_assign rfl) ?_
  refine GoOps.nil ?_
  exact Go.ret ⟨.inl rfl, _, _, DOk.nil, (resOk1 Try.results56 rfl), ⟨_, rfl, h⟩⟩

/-- (*keelson.geom.Geom).RegionLen -/
def geom_Geom_RegionLen (p0 : Option Addr) (H : PH) (Q : Int → PH → Prop) : Prop :=
  mIf (Option.isNone p0)
  (Q 0 H)
  (mNil p0 fun a2 =>
  mLd (.int .i64) H ((a2.add 0).add 1) fun x4 =>
  geom_up (IntKind.wrap .i64 (43 + (IntKind.wrap .i64 (5 * x4)))) 64 H fun y7 H6 =>
  Q y7 H6)

set_option maxRecDepth 20000 in
set_option maxHeartbeats 1000000 in
theorem geom_Geom_RegionLen_s (p0 : Option Addr) (H : PH) (Q : Int → PH → Prop) (h : geom_Geom_RegionLen p0 H Q) :
    CallsH Try.prog 52 #[.pointer p0] H (fun v H' => ∃ (r0 : Int), v = .int .i64 r0 ∧ Q r0 H') := by
  unfold geom_Geom_RegionLen at h
  refine callsH_of_go Try.func52 rfl Try.ntmps52 (Nat.le_of_ble_eq_true rfl) ?_
  refine Go.seq ?_
  refine Go.region rfl ?_
  refine GoOps.q (v := .int .i64 0) rfl rfl (by decide) (q_assign rfl) ?_
  refine GoOps.nil ?_
  refine Go.seq ?_
  refine Go.seq ?_
  refine Go.region rfl ?_
  refine GoOps.q (v := .pointer p0) rfl rfl (by decide) (q_move rfl) ?_
  refine GoOps.q (v := .bool (Option.isNone p0)) rfl rfl (by decide) (q_eqlPn Try.underlying34 rfl rfl) ?_
  refine GoOps.nil ?_
  rcases bor (Option.isNone p0) with hc1 | hc1
  · have h := h.1 hc1
    refine Go.condT (btT rfl hc1) ?_
    refine Go.seq ?_
    refine Go.region rfl ?_
    refine GoOps.q (v := .int .i64 0) rfl rfl (by decide) (q_assign rfl) ?_
    refine GoOps.nil ?_
    exact Go.ret ⟨.inl rfl, _, _, DOk.nil, (resOk1 Try.results52 rfl), ⟨_, rfl, h⟩⟩
  · have h := h.2 hc1
    refine Go.condF (btF rfl hc1) ?_
    refine Go.skip ?_
    refine Go.seq ?_
    refine Go.region rfl ?_
    refine GoOps.q (v := .pointer p0) rfl rfl (by decide) (q_move rfl) ?_
    obtain ⟨a2, ha3, h⟩ := h
    refine GoOps.q (v := .pointer (some a2)) rfl rfl (by decide) (q_nilCheck (ptn rfl ha3)) ?_
    refine GoOps.q (v := .pointer (some (a2.add 0))) rfl rfl (by decide) (q_fieldAddr foff59_0 rfl) ?_
    refine GoOps.q (v := .pointer (some ((a2.add 0).add 1))) rfl rfl (by decide) (q_fieldAddr foff32_1 rfl) ?_
    obtain ⟨x4, hx5, h⟩ := h
    refine GoOps.q (v := .int .i64 x4) rfl rfl (by decide) (q_load scalar3 rfl hx5) ?_
    refine GoOps.q (v := .int .i64 (IntKind.wrap .i64 (5 * x4))) rfl rfl (by decide) (q_mul rfl rfl) ?_
    refine GoOps.q (v := .int .i64 (IntKind.wrap .i64 (43 + (IntKind.wrap .i64 (5 * x4))))) rfl rfl (by decide) (q_add rfl rfl) ?_
    refine call_dst rfl (by decide) body56 (geom_up_s _ _ _ _ h) rfl ?_
    rintro _ H6 ⟨y7, rfl, h⟩
    refine GoOps.q (v := .int .i64 y7) rfl rfl (by decide) (q_assign rfl) ?_
    refine GoOps.nil ?_
    exact Go.ret ⟨.inl rfl, _, _, DOk.nil, (resOk1 Try.results52 rfl), ⟨_, rfl, h⟩⟩

/-- (*keelson.geom.Geom).Pages -/
def geom_Geom_Pages (p0 : Option Addr) (H : PH) (Q : Int → PH → Prop) : Prop :=
  geom_Geom_Config p0 H fun y2 H1 =>
  geom_up y2.1 15 H1 fun y4 H3 =>
  Q y4 H3

set_option maxRecDepth 20000 in
set_option maxHeartbeats 1000000 in
theorem geom_Geom_Pages_s (p0 : Option Addr) (H : PH) (Q : Int → PH → Prop) (h : geom_Geom_Pages p0 H Q) :
    CallsH Try.prog 53 #[.pointer p0] H (fun v H' => ∃ (r0 : Int), v = .int .i64 r0 ∧ Q r0 H') := by
  unfold geom_Geom_Pages at h
  refine callsH_of_go Try.func53 rfl Try.ntmps53 (Nat.le_of_ble_eq_true rfl) ?_
  refine Go.seq ?_
  refine Go.region rfl ?_
  refine GoOps.q (v := .int .i64 0) rfl rfl (by decide) (q_assign rfl) ?_
  refine GoOps.nil ?_
  refine Go.seq ?_
  refine Go.region rfl ?_
  refine GoOps.q (v := .pointer p0) rfl rfl (by decide) (q_move rfl) ?_
  refine call_dst rfl (by decide) body36 (geom_Geom_Config_s _ _ _ h) rfl ?_
  rintro _ H1 ⟨y2, rfl, h⟩
  refine GoOps.q (v := .int .i64 y2.1) rfl rfl (by decide) (q_field fis32_0 scalar3 rfl rfl) ?_
  refine call_dst rfl (by decide) body56 (geom_up_s _ _ _ _ h) rfl ?_
  rintro _ H3 ⟨y4, rfl, h⟩
  refine GoOps.q (v := .int .i64 y4) rfl rfl (by decide) (q_assign rfl) ?_
  refine GoOps.nil ?_
  exact Go.ret ⟨.inl rfl, _, _, DOk.nil, (resOk1 Try.results53 rfl), ⟨_, rfl, h⟩⟩

/-- (*keelson.geom.Geom).segs -/
def geom_Geom_segs (p0 : Option Addr) (H : PH) (Q : Int → PH → Prop) : Prop :=
  geom_Geom_RegionLen p0 H fun y2 H1 =>
  geom_Geom_Pages p0 H1 fun y4 H3 =>
  Q (IntKind.wrap .i64 (2 + (IntKind.wrap .i64 (2 * (IntKind.wrap .i64 (y2 + (IntKind.wrap .i64 (2 * y4)))))))) H3

set_option maxRecDepth 20000 in
set_option maxHeartbeats 1000000 in
theorem geom_Geom_segs_s (p0 : Option Addr) (H : PH) (Q : Int → PH → Prop) (h : geom_Geom_segs p0 H Q) :
    CallsH Try.prog 39 #[.pointer p0] H (fun v H' => ∃ (r0 : Int), v = .int .i64 r0 ∧ Q r0 H') := by
  unfold geom_Geom_segs at h
  refine callsH_of_go Try.func39 rfl Try.ntmps39 (Nat.le_of_ble_eq_true rfl) ?_
  refine Go.seq ?_
  refine Go.region rfl ?_
  refine GoOps.q (v := .int .i64 0) rfl rfl (by decide) (q_assign rfl) ?_
  refine GoOps.nil ?_
  refine Go.seq ?_
  refine Go.region rfl ?_
  refine GoOps.q (v := .pointer p0) rfl rfl (by decide) (q_move rfl) ?_
  refine call_dst rfl (by decide) body52 (geom_Geom_RegionLen_s _ _ _ h) rfl ?_
  rintro _ H1 ⟨y2, rfl, h⟩
  refine GoOps.q (v := .pointer p0) rfl rfl (by decide) (q_move rfl) ?_
  refine call_dst rfl (by decide) body53 (geom_Geom_Pages_s _ _ _ h) rfl ?_
  rintro _ H3 ⟨y4, rfl, h⟩
  refine GoOps.q (v := .int .i64 (IntKind.wrap .i64 (2 * y4))) rfl rfl (by decide) (q_mul rfl rfl) ?_
  refine GoOps.q (v := .int .i64 (IntKind.wrap .i64 (y2 + (IntKind.wrap .i64 (2 * y4))))) rfl rfl (by decide) (q_add rfl rfl) ?_
  refine GoOps.q (v := .int .i64 (IntKind.wrap .i64 (2 * (IntKind.wrap .i64 (y2 + (IntKind.wrap .i64 (2 * y4))))))) rfl rfl (by decide) (q_mul rfl rfl) ?_
  refine GoOps.q (v := .int .i64 (IntKind.wrap .i64 (2 + (IntKind.wrap .i64 (2 * (IntKind.wrap .i64 (y2 + (IntKind.wrap .i64 (2 * y4))))))))) rfl rfl (by decide) (q_add rfl rfl) ?_
  refine GoOps.q (v := .int .i64 (IntKind.wrap .i64 (2 + (IntKind.wrap .i64 (2 * (IntKind.wrap .i64 (y2 + (IntKind.wrap .i64 (2 * y4))))))))) rfl rfl (by decide) (q_assign rfl) ?_
  refine GoOps.nil ?_
  exact Go.ret ⟨.inl rfl, _, _, DOk.nil, (resOk1 Try.results39 rfl), ⟨_, rfl, h⟩⟩

/-- (*keelson.geom.Geom).Seg -/
def geom_Geom_Seg (p0 : Option Addr) (p1 : Int) (H : PH) (Q : Int → PH → Prop) : Prop :=
  geom_Geom_Has p0 p1 H fun y2 H1 =>
  mIf (!y2)
  (Q (-1) H1)
  (mNil p0 fun a4 =>
  mLd (.int .i64) H1 ((a4.add 0).add 2) fun x6 =>
  geom_Geom_segs p0 H1 fun y9 H8 =>
  mSame H8 ((a4.add 0).add 2) (.int .i64 x6) <|
  Q (IntKind.wrap .i64 (y9 + (IntKind.wrap .i64 (p1 * x6)))) H8)

set_option maxRecDepth 20000 in
set_option maxHeartbeats 1000000 in
theorem geom_Geom_Seg_s (p0 : Option Addr) (p1 : Int) (H : PH) (Q : Int → PH → Prop) (h : geom_Geom_Seg p0 p1 H Q) :
    CallsH Try.prog 19 #[.pointer p0, .int .i64 p1] H (fun v H' => ∃ (r0 : Int), v = .int .i64 r0 ∧ Q r0 H') := by
  unfold geom_Geom_Seg at h
  refine callsH_of_go Try.func19 rfl Try.ntmps19 (Nat.le_of_ble_eq_true rfl) ?_
  refine Go.seq ?_
  refine Go.region rfl ?_
  refine GoOps.q (v := .int .i64 0) rfl rfl (by decide) (q_assign rfl) ?_
  refine GoOps.nil ?_
  refine Go.seq ?_
  refine Go.seq ?_
  refine Go.region rfl ?_
  refine GoOps.q (v := .pointer p0) rfl rfl (by decide) (q_move rfl) ?_
  refine GoOps.q (v := .int .i64 p1) rfl rfl (by decide) (q_move rfl) ?_
  refine call_dst rfl (by decide) body38 (geom_Geom_Has_s _ _ _ _ h) rfl ?_
  rintro _ H1 ⟨y2, rfl, h⟩
  refine GoOps.q (v := .bool (!y2)) rfl rfl (by decide) (q_not rfl) ?_
  refine GoOps.nil ?_
  rcases bor (!y2) with hc3 | hc3
  · have h := h.1 hc3
    refine Go.condT (btT rfl hc3) ?_
    refine Go.seq ?_
    refine Go.region rfl ?_
    refine GoOps.q (v := .int .i64 (-1)) rfl rfl (by decide) (q_assign rfl) ?_
    refine GoOps.nil ?_
    exact Go.ret ⟨.inl rfl, _, _, DOk.nil, (resOk1 Try.results19 rfl), ⟨_, rfl, h⟩⟩
  · have h := h.2 hc3
    refine Go.condF (btF rfl hc3) ?_
    refine Go.skip ?_
    refine Go.seq ?_
    refine Go.draw mixed ?_
    refine plan_pure (i := 0) (d := 9) (S2 := 1) (v := .pointer p0) rfl (by decide +kernel) rfl (q_move rfl) ?_
    refine plan_pure (i := 2) (d := 11) (S2 := 5) (v := .int .i64 p1) rfl (by decide +kernel) rfl (q_move rfl) ?_
    refine plan_pure (i := 3) (d := 12) (S2 := 13) (v := .pointer p0) rfl (by decide +kernel) rfl (q_move rfl) ?_
    obtain ⟨a4, ha5, h⟩ := h
    refine plan_pure (i := 4) (d := 13) (S2 := 29) (v := .pointer (some a4)) rfl (by decide +kernel) rfl (q_nilCheck (ptn rfl ha5)) ?_
    refine plan_pure (i := 5) (d := 14) (S2 := 61) (v := .pointer (some (a4.add 0))) rfl (by decide +kernel) rfl (q_fieldAddr foff59_0 rfl) ?_
    refine plan_pure (i := 6) (d := 15) (S2 := 125) (v := .pointer (some ((a4.add 0).add 2))) rfl (by decide +kernel) rfl (q_fieldAddr foff32_2 rfl) ?_
    obtain ⟨x6, hx7, h⟩ := h
    refine plan_load (i := 7) (d := 16) (S2 := 253) (v := .int .i64 x6) rfl (by decide +kernel) rfl (q_load scalar3 rfl hx7) ?_
    refine plan_pure (i := 8) (d := 17) (S2 := 509) (v := .int .i64 (IntKind.wrap .i64 (p1 * x6))) rfl (by decide +kernel) rfl (q_mul rfl rfl) ?_
    refine plan_one (j := 1) (S2 := 511) (by decide +kernel) rfl (by decide) rfl ?_
    refine do_call2 body39 (geom_Geom_segs_s _ _ _ h) rfl ?_
    rintro _ H8 ⟨y9, rfl, h⟩
    obtain ⟨hr10, h⟩ := h
    refine ⟨_, (.inr ⟨⟨_, _, rfl, rfl, q_load scalar3 rfl hr10⟩, _, rfl, rfl⟩), ?_⟩
    refine plan_pure (i := 9) (d := 18) (S2 := 1023) (v := .int .i64 (IntKind.wrap .i64 (y9 + (IntKind.wrap .i64 (p1 * x6))))) rfl (by decide +kernel) rfl (q_add rfl rfl) ?_
    refine plan_pure (i := 10) (d := 4) (S2 := 2047) (v := .int .i64 (IntKind.wrap .i64 (y9 + (IntKind.wrap .i64 (p1 * x6))))) rfl (by decide +kernel) rfl (q_assign rfl) ?_
    refine plan_done (by decide +kernel) ?_
    exact Go.ret ⟨.inl rfl, _, _, DOk.nil, (resOk1 Try.results19 rfl), ⟨_, rfl, h⟩⟩

/-- (*keelson.geom.Geom).Sectors -/
def geom_Geom_Sectors (p0 : Option Addr) (H : PH) (Q : Int → PH → Prop) : Prop :=
  mIf (Option.isNone p0)
  (Q 0 H)
  (mNil p0 fun a2 =>
  mLd (.int .i64) H ((a2.add 0).add 1) fun x4 =>
  mNil p0 fun a6 =>
  mLd (.int .i64) H ((a6.add 0).add 2) fun x8 =>
  geom_Geom_segs p0 H fun y11 H10 =>
  mSame H10 ((a6.add 0).add 2) (.int .i64 x8) <|
  mSame H10 ((a2.add 0).add 1) (.int .i64 x4) <|
  Q (IntKind.wrap .i64 (y11 + (IntKind.wrap .i64 (x4 * x8)))) H10)

set_option maxRecDepth 20000 in
set_option maxHeartbeats 1000000 in
theorem geom_Geom_Sectors_s (p0 : Option Addr) (H : PH) (Q : Int → PH → Prop) (h : geom_Geom_Sectors p0 H Q) :
    CallsH Try.prog 51 #[.pointer p0] H (fun v H' => ∃ (r0 : Int), v = .int .i64 r0 ∧ Q r0 H') := by
  unfold geom_Geom_Sectors at h
  refine callsH_of_go Try.func51 rfl Try.ntmps51 (Nat.le_of_ble_eq_true rfl) ?_
  refine Go.seq ?_
  refine Go.region rfl ?_
  refine GoOps.q (v := .int .i64 0) rfl rfl (by decide) (q_assign rfl) ?_
  refine GoOps.nil ?_
  refine Go.seq ?_
  refine Go.seq ?_
  refine Go.region rfl ?_
  refine GoOps.q (v := .pointer p0) rfl rfl (by decide) (q_move rfl) ?_
  refine GoOps.q (v := .bool (Option.isNone p0)) rfl rfl (by decide) (q_eqlPn Try.underlying34 rfl rfl) ?_
  refine GoOps.nil ?_
  rcases bor (Option.isNone p0) with hc1 | hc1
  · have h := h.1 hc1
    refine Go.condT (btT rfl hc1) ?_
    refine Go.seq ?_
    refine Go.region rfl ?_
    refine GoOps.q (v := .int .i64 0) rfl rfl (by decide) (q_assign rfl) ?_
    refine GoOps.nil ?_
    exact Go.ret ⟨.inl rfl, _, _, DOk.nil, (resOk1 Try.results51 rfl), ⟨_, rfl, h⟩⟩
  · have h := h.2 hc1
    refine Go.condF (btF rfl hc1) ?_
    refine Go.skip ?_
    refine Go.seq ?_
    refine Go.draw mixed ?_
    refine plan_pure (i := 0) (d := 5) (S2 := 1) (v := .pointer p0) rfl (by decide +kernel) rfl (q_move rfl) ?_
    refine plan_pure (i := 2) (d := 7) (S2 := 5) (v := .pointer p0) rfl (by decide +kernel) rfl (q_move rfl) ?_
    obtain ⟨a2, ha3, h⟩ := h
    refine plan_pure (i := 3) (d := 8) (S2 := 13) (v := .pointer (some a2)) rfl (by decide +kernel) rfl (q_nilCheck (ptn rfl ha3)) ?_
    refine plan_pure (i := 4) (d := 9) (S2 := 29) (v := .pointer (some (a2.add 0))) rfl (by decide +kernel) rfl (q_fieldAddr foff59_0 rfl) ?_
    refine plan_pure (i := 5) (d := 10) (S2 := 61) (v := .pointer (some ((a2.add 0).add 1))) rfl (by decide +kernel) rfl (q_fieldAddr foff32_1 rfl) ?_
    obtain ⟨x4, hx5, h⟩ := h
    refine plan_load (i := 6) (d := 11) (S2 := 125) (v := .int .i64 x4) rfl (by decide +kernel) rfl (q_load scalar3 rfl hx5) ?_
    refine plan_pure (i := 7) (d := 12) (S2 := 253) (v := .pointer p0) rfl (by decide +kernel) rfl (q_move rfl) ?_
    obtain ⟨a6, ha7, h⟩ := h
    refine plan_pure (i := 8) (d := 13) (S2 := 509) (v := .pointer (some a6)) rfl (by decide +kernel) rfl (q_nilCheck (ptn rfl ha7)) ?_
    refine plan_pure (i := 9) (d := 14) (S2 := 1021) (v := .pointer (some (a6.add 0))) rfl (by decide +kernel) rfl (q_fieldAddr foff59_0 rfl) ?_
    refine plan_pure (i := 10) (d := 15) (S2 := 2045) (v := .pointer (some ((a6.add 0).add 2))) rfl (by decide +kernel) rfl (q_fieldAddr foff32_2 rfl) ?_
    obtain ⟨x8, hx9, h⟩ := h
    refine plan_load (i := 11) (d := 16) (S2 := 4093) (v := .int .i64 x8) rfl (by decide +kernel) rfl (q_load scalar3 rfl hx9) ?_
    refine plan_pure (i := 12) (d := 17) (S2 := 8189) (v := .int .i64 (IntKind.wrap .i64 (x4 * x8))) rfl (by decide +kernel) rfl (q_mul rfl rfl) ?_
    refine plan_one (j := 1) (S2 := 8191) (by decide +kernel) rfl (by decide) rfl ?_
    refine do_call2 body39 (geom_Geom_segs_s _ _ _ h) rfl ?_
    rintro _ H10 ⟨y11, rfl, h⟩
    obtain ⟨hr12, h⟩ := h
    obtain ⟨hr13, h⟩ := h
    refine ⟨_, (.inr ⟨⟨_, _, rfl, rfl, q_load scalar3 rfl hr12⟩, _, rfl, .inr ⟨⟨_, _, rfl, rfl, q_load scalar3 rfl hr13⟩, _, rfl, rfl⟩⟩), ?_⟩
    refine plan_pure (i := 13) (d := 18) (S2 := 16383) (v := .int .i64 (IntKind.wrap .i64 (y11 + (IntKind.wrap .i64 (x4 * x8))))) rfl (by decide +kernel) rfl (q_add rfl rfl) ?_
    refine plan_pure (i := 14) (d := 2) (S2 := 32767) (v := .int .i64 (IntKind.wrap .i64 (y11 + (IntKind.wrap .i64 (x4 * x8))))) rfl (by decide +kernel) rfl (q_assign rfl) ?_
    refine plan_done (by decide +kernel) ?_
    exact Go.ret ⟨.inl rfl, _, _, DOk.nil, (resOk1 Try.results51 rfl), ⟨_, rfl, h⟩⟩

/-- (*keelson.geom.Geom).Where -/
def geom_Geom_Where (p0 : Option Addr) (p1 : Int) (H : PH) (Q : Int → Int → Bool → PH → Prop) : Prop :=
  mJoin (fun (s2 : Bool) (H4 : PH) =>
  mIf s2
  (Q 0 0 false H4)
  (geom_Geom_segs p0 H4 fun y8 H7 =>
  mNil p0 fun a9 =>
  mLd (.int .i64) H7 ((a9.add 0).add 2) fun x11 =>
  mNe x11 <|
  mNil p0 fun a14 =>
  mLd (.int .i64) H7 ((a14.add 0).add 2) fun x16 =>
  mNe x16 <|
  Q (IntKind.wrap .i64 (Int.tdiv (IntKind.wrap .i64 (p1 - y8)) x11)) (Int.tmod (IntKind.wrap .i64 (p1 - y8)) x16) true H7))
  fun j3 =>
  mIf (Option.isNone p0)
  (j3 true H)
  (geom_Geom_segs p0 H fun y20 H19 =>
  geom_Geom_Sectors p0 H19 fun y22 H21 =>
  geom_within p1 y20 (IntKind.wrap .i64 (y22 - 1)) H21 fun y24 H23 =>
  j3 (!y24) H23)

set_option maxRecDepth 20000 in
set_option maxHeartbeats 1000000 in
theorem geom_Geom_Where_s (p0 : Option Addr) (p1 : Int) (H : PH) (Q : Int → Int → Bool → PH → Prop) (h : geom_Geom_Where p0 p1 H Q) :
    CallsH Try.prog 37 #[.pointer p0, .int .i64 p1] H (fun v H' => ∃ (r0 : Int) (r1 : Int) (r2 : Bool), v = .tuple #[.int .i64 r0, .int .i64 r1, .bool r2] ∧ Q r0 r1 r2 H') := by
  unfold geom_Geom_Where at h
  refine callsH_of_go Try.func37 rfl Try.ntmps37 (Nat.le_of_ble_eq_true rfl) ?_
  refine Go.seq ?_
  refine Go.region rfl ?_
  refine GoOps.q (v := .int .i64 0) rfl rfl (by decide) (q_assign rfl) ?_
  refine GoOps.q (v := .int .i64 0) rfl rfl (by decide) (q_assign rfl) ?_
  refine GoOps.q (v := .bool false) rfl rfl (by decide) (q_assign rfl) ?_
  refine GoOps.nil ?_
  refine Go.seq ?_
  refine Go.seq ?_
  refine Go.region rfl ?_
  refine GoOps.q (v := .pointer p0) rfl rfl (by decide) (q_move rfl) ?_
  refine GoOps.q (v := .bool (Option.isNone p0)) rfl rfl (by decide) (q_eqlPn Try.underlying34 rfl rfl) ?_
  refine GoOps.q (v := .bool (Option.isNone p0)) rfl rfl (by decide) (q_move rfl) ?_
  refine join_ops 9 (fun ρ (s2 : Bool) => ρ 0 = .pointer p0 ∧ ρ 1 = .int .i64 p1 ∧ ρ 18 = .bool s2) h ?_ ?_ <;> clear h
  · intro s2 H4 ρ h hE
    obtain ⟨e5_0, e5_1, e5_18⟩ := hE
    refine GoOps.nil ?_
    rcases bor s2 with hc6 | hc6
    · have h := h.1 hc6
      refine Go.condT (btT e5_18 hc6) ?_
      refine Go.seq ?_
      refine Go.region rfl ?_
      refine GoOps.q (v := .int .i64 0) rfl rfl (by decide) (q_assign rfl) ?_
      refine GoOps.q (v := .int .i64 0) rfl rfl (by decide) (q_assign rfl) ?_
      refine GoOps.q (v := .bool false) rfl rfl (by decide) (q_assign rfl) ?_
      refine GoOps.nil ?_
      exact Go.ret ⟨.inl rfl, _, _, DOk.nil, (resOk3 Try.results37 rfl rfl rfl), ⟨_, _, _, rfl, h⟩⟩
    · have h := h.2 hc6
      refine Go.condF (btF e5_18 hc6) ?_
      refine Go.skip ?_
      refine Go.seq ?_
      refine Go.region rfl ?_
      refine GoOps.q (v := .int .i64 p1) rfl rfl (by decide) (q_move e5_1) ?_
      refine GoOps.q (v := .pointer p0) rfl rfl (by decide) (q_move e5_0) ?_
      refine call_dst rfl (by decide) body39 (geom_Geom_segs_s _ _ _ h) rfl ?_
      rintro _ H7 ⟨y8, rfl, h⟩
      refine GoOps.q (v := .int .i64 (IntKind.wrap .i64 (p1 - y8))) rfl rfl (by decide) (q_sub rfl rfl) ?_
      refine GoOps.q (v := .int .i64 (IntKind.wrap .i64 (p1 - y8))) rfl rfl (by decide) (q_assign rfl) ?_
      refine GoOps.nil ?_
      refine Go.seq ?_
      refine Go.draw mixed ?_
      refine plan_pure (i := 0) (d := 23) (S2 := 1) (v := .int .i64 (IntKind.wrap .i64 (p1 - y8))) rfl (by decide +kernel) rfl (q_move rfl) ?_
      refine plan_pure (i := 1) (d := 24) (S2 := 3) (v := .pointer p0) rfl (by decide +kernel) rfl (q_move e5_0) ?_
      obtain ⟨a9, ha10, h⟩ := h
      refine plan_pure (i := 2) (d := 25) (S2 := 7) (v := .pointer (some a9)) rfl (by decide +kernel) rfl (q_nilCheck (ptn rfl ha10)) ?_
      refine plan_pure (i := 3) (d := 26) (S2 := 15) (v := .pointer (some (a9.add 0))) rfl (by decide +kernel) rfl (q_fieldAddr foff59_0 rfl) ?_
      refine plan_pure (i := 4) (d := 27) (S2 := 31) (v := .pointer (some ((a9.add 0).add 2))) rfl (by decide +kernel) rfl (q_fieldAddr foff32_2 rfl) ?_
      obtain ⟨x11, hx12, h⟩ := h
      refine plan_load (i := 5) (d := 28) (S2 := 63) (v := .int .i64 x11) rfl (by decide +kernel) rfl (q_load scalar3 rfl hx12) ?_
      obtain ⟨hn13, h⟩ := h
      refine plan_pure (i := 6) (d := 29) (S2 := 127) (v := .int .i64 (IntKind.wrap .i64 (Int.tdiv (IntKind.wrap .i64 (p1 - y8)) x11))) rfl (by decide +kernel) rfl (q_quo hn13 rfl rfl) ?_
      refine plan_pure (i := 7) (d := 30) (S2 := 255) (v := .int .i64 (IntKind.wrap .i64 (p1 - y8))) rfl (by decide +kernel) rfl (q_move rfl) ?_
      refine plan_pure (i := 8) (d := 31) (S2 := 511) (v := .pointer p0) rfl (by decide +kernel) rfl (q_move e5_0) ?_
      obtain ⟨a14, ha15, h⟩ := h
      refine plan_pure (i := 9) (d := 32) (S2 := 1023) (v := .pointer (some a14)) rfl (by decide +kernel) rfl (q_nilCheck (ptn rfl ha15)) ?_
      refine plan_pure (i := 10) (d := 33) (S2 := 2047) (v := .pointer (some (a14.add 0))) rfl (by decide +kernel) rfl (q_fieldAddr foff59_0 rfl) ?_
      refine plan_pure (i := 11) (d := 34) (S2 := 4095) (v := .pointer (some ((a14.add 0).add 2))) rfl (by decide +kernel) rfl (q_fieldAddr foff32_2 rfl) ?_
      obtain ⟨x16, hx17, h⟩ := h
      refine plan_load (i := 12) (d := 35) (S2 := 8191) (v := .int .i64 x16) rfl (by decide +kernel) rfl (q_load scalar3 rfl hx17) ?_
      obtain ⟨hn18, h⟩ := h
      refine plan_pure (i := 13) (d := 36) (S2 := 16383) (v := .int .i64 (Int.tmod (IntKind.wrap .i64 (p1 - y8)) x16)) rfl (by decide +kernel) rfl (q_rem hn18 rfl rfl) ?_
      refine plan_pure (i := 14) (d := 4) (S2 := 32767) (v := .int .i64 (IntKind.wrap .i64 (Int.tdiv (IntKind.wrap .i64 (p1 - y8)) x11))) rfl (by decide +kernel) rfl (q_assign rfl) ?_
      refine plan_pure (i := 15) (d := 5) (S2 := 65535) (v := .int .i64 (Int.tmod (IntKind.wrap .i64 (p1 - y8)) x16)) rfl (by decide +kernel) rfl (q_assign rfl) ?_
      refine plan_pure (i := 16) (d := 6) (S2 := 131071) (v := .bool true) rfl (by decide +kernel) rfl (q_assign rfl) ?_
      refine plan_done (by decide +kernel) ?_
      exact Go.ret ⟨.inl rfl, _, _, DOk.nil, (resOk3 Try.results37 rfl rfl rfl), ⟨_, _, _, rfl, h⟩⟩
  · intro j3 hj3 h
    rcases bor (Option.isNone p0) with hc1 | hc1
    · have h := h.1 hc1
      refine no_dst (want_no rfl rfl rfl hc1) rfl (by decide) ?_
      refine no_dst (want_no rfl rfl rfl hc1) rfl (by decide) ?_
      refine no_dst (want_no rfl rfl rfl hc1) rfl (by decide) ?_
      refine no_dst (want_no rfl rfl rfl hc1) rfl (by decide) ?_
      refine no_dst (want_no rfl rfl rfl hc1) rfl (by decide) ?_
      refine no_dst (want_no rfl rfl rfl hc1) rfl (by decide) ?_
      refine no_dst (want_no rfl rfl rfl hc1) rfl (by decide) ?_
      refine no_dst (want_no rfl rfl rfl hc1) rfl (by decide) ?_
      refine GoOps.q (v := .bool true) rfl rfl (by decide) (q_pickT (btT rfl hc1) rfl) ?_
      exact hj3 true _ _ h (by exact ⟨rfl, rfl, rfl⟩)
    · have h := h.2 hc1
      refine GoOps.q (v := .int .i64 p1) (want_yes rfl rfl rfl hc1) rfl (by decide) (q_move rfl) ?_
      refine GoOps.q (v := .pointer p0) (want_yes rfl rfl rfl hc1) rfl (by decide) (q_move rfl) ?_
      refine call_dst (want_yes rfl rfl rfl hc1) (by decide) body39 (geom_Geom_segs_s _ _ _ h) rfl ?_
      rintro _ H19 ⟨y20, rfl, h⟩
      refine GoOps.q (v := .pointer p0) (want_yes rfl rfl rfl hc1) rfl (by decide) (q_move rfl) ?_
      refine call_dst (want_yes rfl rfl rfl hc1) (by decide) body51 (geom_Geom_Sectors_s _ _ _ h) rfl ?_
      rintro _ H21 ⟨y22, rfl, h⟩
      refine GoOps.q (v := .int .i64 (IntKind.wrap .i64 (y22 - 1))) (want_yes rfl rfl rfl hc1) rfl (by decide) (q_sub rfl rfl) ?_
      refine call_dst (want_yes rfl rfl rfl hc1) (by decide) body35 (geom_within_s _ _ _ _ _ h) rfl ?_
      rintro _ H23 ⟨y24, rfl, h⟩
      refine GoOps.q (v := .bool (!y24)) (want_yes rfl rfl rfl hc1) rfl (by decide) (q_not rfl) ?_
      refine GoOps.q (v := .bool (!y24)) rfl rfl (by decide) (q_pickF (btF rfl hc1) rfl) ?_
      exact hj3 (!y24) _ _ h (by exact ⟨rfl, rfl, rfl⟩)

/-- (*keelson.usage.Table).Add -/
def usage_Table_Add (p0 : Option Addr) (p1 : Int) (p2 : Int) (H : PH) (Q : Bool → PH → Prop) : Prop :=
  mIf (Option.isNone p0)
  (Q false H)
  (mNil p0 fun a2 =>
  mLd .pointer H (a2.add 0) fun x4 =>
  geom_Geom_Where x4 p1 H fun y7 y8 y9 H6 =>
  mJoin (fun (s10 : Unit) (H12 : PH) =>
  Q y9 H12)
  fun j11 =>
  mIf (!y9)
  (j11 () H6)
  (mNil p0 fun a15 =>
  mLd Sl.v H6 (a15.add 2) fun x17 =>
  mIdx x17 1 y7 fun a19 =>
  mLd (.int .i64) H6 a19 fun x21 =>
  mIf (decide ((IntKind.wrap .i64 (2147483647 - x21)) < p2))
  (mNil p0 fun a24 =>
  mLd Sl.v H6 (a24.add 2) fun x26 =>
  mIdx x26 1 y7 fun a28 =>
  mSt H6 a28 ([.int .i64 2147483647]) fun H30 =>
  j11 () H30)
  (mNil p0 fun a32 =>
  mLd Sl.v H6 (a32.add 2) fun x34 =>
  mNil p0 fun a36 =>
  mLd Sl.v H6 (a36.add 2) fun x38 =>
  mIdx x38 1 y7 fun a40 =>
  mLd (.int .i64) H6 a40 fun x42 =>
  mIdx x34 1 y7 fun a44 =>
  mSt H6 a44 ([.int .i64 (if (IntKind.wrap .i64 (x42 + p2)) < 0 then 0 else (IntKind.wrap .i64 (x42 + p2)))]) fun H46 =>
  j11 () H46)))

set_option maxRecDepth 20000 in
set_option maxHeartbeats 1000000 in
theorem usage_Table_Add_s (p0 : Option Addr) (p1 : Int) (p2 : Int) (H : PH) (Q : Bool → PH → Prop) (h : usage_Table_Add p0 p1 p2 H Q) :
    CallsH Try.prog 18 #[.pointer p0, .int .i64 p1, .int .i64 p2] H (fun v H' => ∃ (r0 : Bool), v = .bool r0 ∧ Q r0 H') := by
  unfold usage_Table_Add at h
  refine callsH_of_go Try.func18 rfl Try.ntmps18 (Nat.le_of_ble_eq_true rfl) ?_
  refine Go.seq ?_
  refine Go.region rfl ?_
  refine GoOps.q (v := .bool false) rfl rfl (by decide) (q_assign rfl) ?_
  refine GoOps.nil ?_
  refine Go.seq ?_
  refine Go.seq ?_
  refine Go.region rfl ?_
  refine GoOps.q (v := .pointer p0) rfl rfl (by decide) (q_move rfl) ?_
  refine GoOps.q (v := .bool (Option.isNone p0)) rfl rfl (by decide) (q_eqlPn Try.underlying41 rfl rfl) ?_
  refine GoOps.nil ?_
  rcases bor (Option.isNone p0) with hc1 | hc1
  · have h := h.1 hc1
    refine Go.condT (btT rfl hc1) ?_
    refine Go.seq ?_
    refine Go.region rfl ?_
    refine GoOps.q (v := .bool false) rfl rfl (by decide) (q_assign rfl) ?_
    refine GoOps.nil ?_
    exact Go.ret ⟨.inl rfl, _, _, DOk.nil, (resOk1 Try.results18 rfl), ⟨_, rfl, h⟩⟩
  · have h := h.2 hc1
    refine Go.condF (btF rfl hc1) ?_
    refine Go.skip ?_
    refine Go.seq ?_
    refine Go.region rfl ?_
    refine GoOps.q (v := .pointer p0) rfl rfl (by decide) (q_move rfl) ?_
    obtain ⟨a2, ha3, h⟩ := h
    refine GoOps.q (v := .pointer (some a2)) rfl rfl (by decide) (q_nilCheck (ptn rfl ha3)) ?_
    refine GoOps.q (v := .pointer (some (a2.add 0))) rfl rfl (by decide) (q_fieldAddr foff62_0 rfl) ?_
    obtain ⟨x4, hx5, h⟩ := h
    refine GoOps.q (v := .pointer x4) rfl rfl (by decide) (q_load scalar34 rfl hx5) ?_
    refine GoOps.q (v := .int .i64 p1) rfl rfl (by decide) (q_move rfl) ?_
    refine call_dst rfl (by decide) body37 (geom_Geom_Where_s _ _ _ _ h) rfl ?_
    rintro _ H6 ⟨y7, y8, y9, rfl, h⟩
    refine GoOps.q (v := .tuple #[.int .i64 y7, .int .i64 y8, .bool y9]) rfl rfl (by decide) (q_move rfl) ?_
    refine GoOps.q (v := .int .i64 y7) rfl rfl (by decide) (q_extract rfl rfl) ?_
    refine GoOps.q (v := .int .i64 y8) rfl rfl (by decide) (q_extract rfl rfl) ?_
    refine GoOps.q (v := .bool y9) rfl rfl (by decide) (q_extract rfl rfl) ?_
    refine GoOps.q (v := .int .i64 y7) rfl rfl (by decide) (q_assign rfl) ?_
    refine GoOps.q (v := .int .i64 y8) rfl rfl (by decide) (q_assign rfl) ?_
    refine GoOps.q (v := .bool y9) rfl rfl (by decide) (q_assign rfl) ?_
    refine GoOps.nil ?_
    refine Go.seq ?_
    refine join_go 1 (fun ρ (s10 : Unit) => ρ 9 = .bool y9) h ?_ ?_ <;> clear h
    · intro s10 H12 ρ h hE
      have e13_9 := hE
      refine Go.seq ?_
      refine Go.region rfl ?_
      refine GoOps.q (v := .bool y9) rfl rfl (by decide) (q_move e13_9) ?_
      refine GoOps.q (v := .bool y9) rfl rfl (by decide) (q_assign rfl) ?_
      refine GoOps.nil ?_
      exact Go.ret ⟨.inl rfl, _, _, DOk.nil, (resOk1 Try.results18 rfl), ⟨_, rfl, h⟩⟩
    · intro j11 hj11 h
      refine Go.block ?_
      refine Go.seq ?_
      refine Go.region rfl ?_
      refine GoOps.q (v := .bool y9) rfl rfl (by decide) (q_move rfl) ?_
      refine GoOps.q (v := .bool (!y9)) rfl rfl (by decide) (q_not rfl) ?_
      refine GoOps.q (v := .bool (!y9)) rfl rfl (by decide) (q_assign rfl) ?_
      refine GoOps.nil ?_
      rcases bor (!y9) with hc14 | hc14
      · have h := h.1 hc14
        refine Go.condT (btT rfl hc14) ?_
        refine Go.skip ?_
        refine Go.inBlock ?_
        exact hj11 _ _ _ h rfl
      · have h := h.2 hc14
        refine Go.condF (btF rfl hc14) ?_
        refine Go.seq ?_
        refine Go.region rfl ?_
        refine GoOps.q (v := .int .i64 p2) rfl rfl (by decide) (q_move rfl) ?_
        refine GoOps.q (v := .pointer p0) rfl rfl (by decide) (q_move rfl) ?_
        obtain ⟨a15, ha16, h⟩ := h
        refine GoOps.q (v := .pointer (some a15)) rfl rfl (by decide) (q_nilCheck (ptn rfl ha16)) ?_
        refine GoOps.q (v := .pointer (some (a15.add 2))) rfl rfl (by decide) (q_fieldAddr foff62_2 rfl) ?_
        obtain ⟨x17, hx18, h⟩ := h
        refine GoOps.q (v := Sl.v x17) rfl rfl (by decide) (q_load scalar30 rfl hx18) ?_
        refine GoOps.q (v := .int .i64 y7) rfl rfl (by decide) (q_move rfl) ?_
        obtain ⟨a19, ha20, h⟩ := h
        refine GoOps.q (v := .pointer (some a19)) rfl rfl (by decide) (q_idx slice30 ha20 rfl rfl) ?_
        obtain ⟨x21, hx22, h⟩ := h
        refine GoOps.q (v := .int .i64 x21) rfl rfl (by decide) (q_load scalar3 rfl hx22) ?_
        refine GoOps.q (v := .int .i64 (IntKind.wrap .i64 (2147483647 - x21))) rfl rfl (by decide) (q_sub rfl rfl) ?_
        refine GoOps.q (v := .bool (decide ((IntKind.wrap .i64 (2147483647 - x21)) < p2))) rfl rfl (by decide) (q_gtr rfl rfl) ?_
        refine GoOps.q (v := .bool (decide ((IntKind.wrap .i64 (2147483647 - x21)) < p2))) rfl rfl (by decide) (q_assign rfl) ?_
        refine GoOps.nil ?_
        rcases bor (decide ((IntKind.wrap .i64 (2147483647 - x21)) < p2)) with hc23 | hc23
        · have h := h.1 hc23
          refine Go.condT (btT rfl hc23) ?_
          refine Go.region rfl ?_
          refine GoOps.q (v := .pointer p0) rfl rfl (by decide) (q_move rfl) ?_
          obtain ⟨a24, ha25, h⟩ := h
          refine GoOps.q (v := .pointer (some a24)) rfl rfl (by decide) (q_nilCheck (ptn rfl ha25)) ?_
          refine GoOps.q (v := .pointer (some (a24.add 2))) rfl rfl (by decide) (q_fieldAddr foff62_2 rfl) ?_
          obtain ⟨x26, hx27, h⟩ := h
          refine GoOps.q (v := Sl.v x26) rfl rfl (by decide) (q_load scalar30 rfl hx27) ?_
          refine GoOps.q (v := .int .i64 y7) rfl rfl (by decide) (q_move rfl) ?_
          obtain ⟨a28, ha29, h⟩ := h
          refine GoOps.q (v := .pointer (some a28)) rfl rfl (by decide) (q_idx slice30 ha29 rfl rfl) ?_
          obtain ⟨q31b, q31o, q31c, q31e, hq31a, hq31b, hq31l, hq31v, h⟩ := h
          refine op_none rfl rfl (do_store (vs := [.int .i64 2147483647]) size3 (pta rfl hq31a) rfl rfl rfl hq31v hq31b hq31l ?_) 
          refine GoOps.nil ?_
          refine Go.inBlock ?_
          exact hj11 _ _ _ h rfl
        · have h := h.2 hc23
          refine Go.condF (btF rfl hc23) ?_
          refine Go.draw mixed ?_
          refine plan_pure (i := 0) (d := 22) (S2 := 1) (v := .pointer p0) rfl (by decide +kernel) rfl (q_move rfl) ?_
          obtain ⟨a32, ha33, h⟩ := h
          refine plan_pure (i := 1) (d := 23) (S2 := 3) (v := .pointer (some a32)) rfl (by decide +kernel) rfl (q_nilCheck (ptn rfl ha33)) ?_
          refine plan_pure (i := 2) (d := 24) (S2 := 7) (v := .pointer (some (a32.add 2))) rfl (by decide +kernel) rfl (q_fieldAddr foff62_2 rfl) ?_
          obtain ⟨x34, hx35, h⟩ := h
          refine plan_load (i := 3) (d := 25) (S2 := 15) (v := Sl.v x34) rfl (by decide +kernel) rfl (q_load scalar30 rfl hx35) ?_
          refine plan_pure (i := 4) (d := 26) (S2 := 31) (v := .int .i64 y7) rfl (by decide +kernel) rfl (q_move rfl) ?_
          refine plan_pure (i := 5) (d := 27) (S2 := 63) (v := .pointer p0) rfl (by decide +kernel) rfl (q_move rfl) ?_
          obtain ⟨a36, ha37, h⟩ := h
          refine plan_pure (i := 6) (d := 28) (S2 := 127) (v := .pointer (some a36)) rfl (by decide +kernel) rfl (q_nilCheck (ptn rfl ha37)) ?_
          refine plan_pure (i := 7) (d := 29) (S2 := 255) (v := .pointer (some (a36.add 2))) rfl (by decide +kernel) rfl (q_fieldAddr foff62_2 rfl) ?_
          obtain ⟨x38, hx39, h⟩ := h
          refine plan_load (i := 8) (d := 30) (S2 := 511) (v := Sl.v x38) rfl (by decide +kernel) rfl (q_load scalar30 rfl hx39) ?_
          refine plan_pure (i := 9) (d := 31) (S2 := 1023) (v := .int .i64 y7) rfl (by decide +kernel) rfl (q_move rfl) ?_
          obtain ⟨a40, ha41, h⟩ := h
          refine plan_pure (i := 10) (d := 32) (S2 := 2047) (v := .pointer (some a40)) rfl (by decide +kernel) rfl (q_idx slice30 ha41 rfl rfl) ?_
          obtain ⟨x42, hx43, h⟩ := h
          refine plan_load (i := 11) (d := 33) (S2 := 4095) (v := .int .i64 x42) rfl (by decide +kernel) rfl (q_load scalar3 rfl hx43) ?_
          refine plan_pure (i := 12) (d := 34) (S2 := 8191) (v := .int .i64 p2) rfl (by decide +kernel) rfl (q_move rfl) ?_
          refine plan_pure (i := 13) (d := 35) (S2 := 16383) (v := .int .i64 (IntKind.wrap .i64 (x42 + p2))) rfl (by decide +kernel) rfl (q_add rfl rfl) ?_
          refine plan_pure (i := 14) (d := 36) (S2 := 32767) (v := .int .i64 (if (IntKind.wrap .i64 (x42 + p2)) < 0 then 0 else (IntKind.wrap .i64 (x42 + p2)))) rfl (by decide +kernel) rfl (q_max2 rfl) ?_
          obtain ⟨a44, ha45, h⟩ := h
          refine plan_pure (i := 15) (d := 37) (S2 := 65535) (v := .pointer (some a44)) rfl (by decide +kernel) rfl (q_idx slice30 ha45 rfl rfl) ?_
          refine plan_one (j := 16) (S2 := 131071) (by decide +kernel) rfl (by decide) rfl ?_
          obtain ⟨q47b, q47o, q47c, q47e, hq47a, hq47b, hq47l, hq47v, h⟩ := h
          refine do_store (vs := [.int .i64 (if (IntKind.wrap .i64 (x42 + p2)) < 0 then 0 else (IntKind.wrap .i64 (x42 + p2)))]) size3 (pta rfl hq47a) rfl rfl rfl hq47v hq47b hq47l ?_
          refine ⟨_, (.inl ⟨⟨[16], by decide +kernel, rfl⟩, .inl ⟨⟨[16], by decide +kernel, rfl⟩, .inl ⟨⟨[16], by decide +kernel, rfl⟩, rfl⟩⟩⟩), ?_⟩
          refine plan_done (by decide +kernel) ?_
          refine Go.inBlock ?_
          exact hj11 _ _ _ h rfl

/-- keelson.keelsonlaw19.awake -/
def keelsonlaw19_awake (H : PH) (Q : Bool → PH → Prop) : Prop :=
  geom_New (4, 8, 24) H fun y2 y3 H1 =>
  usage_New y2 Sl.nil H1 fun y5 H4 =>
  mJoin (fun (s7 : Bool) (H9 : PH) =>
  mIf s7
  (Q false H9)
  (usage_Table_Take y5 false H9 fun y13 y14 H12 =>
  usage_Table_Take y5 false H12 fun y16 y17 H15 =>
  victim_Pick y2 y5 9 H15 fun y19 y20 H18 =>
  usage_Table_Seal y5 0 H18 fun H21 =>
  usage_Table_Seal y5 1 H21 fun H22 =>
  geom_Geom_Seg y2 1 H22 fun y24 H23 =>
  usage_Table_Add y5 (IntKind.wrap .i64 (y24 + 3)) 11 H23 fun y26 H25 =>
  victim_Pick y2 y5 9 H25 fun y28 y29 H27 =>
  victim_Score 11 30 22 H27 fun y31 H30 =>
  mJoin (fun (s33 : Bool) (H35 : PH) =>
  mJoin (fun (s38 : Bool) (H40 : PH) =>
  mJoin (fun (s43 : Bool) (H45 : PH) =>
  mJoin (fun (s48 : Bool) (H50 : PH) =>
  mJoin (fun (s53 : Bool) (H55 : PH) =>
  mJoin (fun (s58 : Bool) (H60 : PH) =>
  Q s58 H60)
  fun j59 =>
  mIf s53
  (victim_Better (2, 9, 9) (2, 9, 8) H55 fun y63 H62 =>
  j59 (!y63) H62)
  (j59 false H55))
  fun j54 =>
  mIf s48
  (victim_Better (2, 9, 9) (1, 0, 0) H50 fun y65 H64 =>
  j54 y65 H64)
  (j54 false H50))
  fun j49 =>
  mIf s43
  (j49 (y28 == 1) H45)
  (j49 false H45))
  fun j44 =>
  mIf s38
  (j44 y29 H40)
  (j44 false H40))
  fun j39 =>
  mIf s33
  (j39 (!y20) H35)
  (j39 false H35))
  fun j34 =>
  mIf (y31 == 10)
  (victim_Score 23 30 22 H30 fun y67 H66 =>
  j34 (y67 == 0) H66)
  (j34 false H30)))
  fun j8 =>
  mIf (y3 != 0)
  (j8 true H4)
  (j8 (Option.isNone y5) H4)

set_option maxRecDepth 20000 in
set_option maxHeartbeats 1000000 in
theorem keelsonlaw19_awake_s (H : PH) (Q : Bool → PH → Prop) (h : keelsonlaw19_awake H Q) :
    CallsH Try.prog 10 #[] H (fun v H' => ∃ (r0 : Bool), v = .bool r0 ∧ Q r0 H') := by
  unfold keelsonlaw19_awake at h
  refine callsH_of_go Try.func10 rfl Try.ntmps10 (Nat.le_of_ble_eq_true rfl) ?_
  refine Go.seq ?_
  refine Go.region rfl ?_
  refine GoOps.q (v := .bool false) rfl rfl (by decide) (q_assign rfl) ?_
  refine GoOps.nil ?_
  refine Go.seq ?_
  refine Go.region rfl ?_
  refine GoOps.q (v := .agg ([.int .i64 4, .int .i64 8, .int .i64 24] : List Value).toArray) rfl rfl (by decide) (q_build (ps := [(0, .int .i64 4), (1, .int .i64 8), (2, .int .i64 24)]) (cs := [.int .i64 4, .int .i64 8, .int .i64 24]) places32 zero32 rfl rfl rfl) ?_
  refine call_dst rfl (by decide) body15 (geom_New_s _ _ _ h) rfl ?_
  rintro _ H1 ⟨y2, y3, rfl, h⟩
  refine GoOps.q (v := .tuple #[.pointer y2, .int .i64 y3]) rfl rfl (by decide) (q_move rfl) ?_
  refine GoOps.q (v := .pointer y2) rfl rfl (by decide) (q_extract rfl rfl) ?_
  refine GoOps.q (v := .int .i64 y3) rfl rfl (by decide) (q_extract rfl rfl) ?_
  refine GoOps.q (v := .pointer y2) rfl rfl (by decide) (q_assign rfl) ?_
  refine GoOps.q (v := .int .i64 y3) rfl rfl (by decide) (q_assign rfl) ?_
  refine GoOps.nil ?_
  refine Go.seq ?_
  refine Go.region rfl ?_
  refine GoOps.q (v := .pointer y2) rfl rfl (by decide) (q_move rfl) ?_
  refine call_dst rfl (by decide) body16 (usage_New_s _ _ _ _ h) rfl ?_
  rintro _ H4 ⟨y5, rfl, h⟩
  refine GoOps.q (v := .pointer y5) rfl rfl (by decide) (q_assign rfl) ?_
  refine GoOps.nil ?_
  refine Go.seq ?_
  refine Go.seq ?_
  refine Go.region rfl ?_
  refine GoOps.q (v := .int .i64 y3) rfl rfl (by decide) (q_move rfl) ?_
  refine GoOps.q (v := .bool (y3 != 0)) rfl rfl (by decide) (q_neq rfl rfl) ?_
  refine GoOps.q (v := .bool (y3 != 0)) rfl rfl (by decide) (q_move rfl) ?_
  refine join_ops 3 (fun ρ (s7 : Bool) => ρ 1 = .pointer y2 ∧ ρ 3 = .pointer y5 ∧ ρ 20 = .bool s7) h ?_ ?_ <;> clear h
  · intro s7 H9 ρ h hE
    obtain ⟨e10_1, e10_3, e10_20⟩ := hE
    refine GoOps.nil ?_
    rcases bor s7 with hc11 | hc11
    · have h := h.1 hc11
      refine Go.condT (btT e10_20 hc11) ?_
      refine Go.seq ?_
      refine Go.region rfl ?_
      refine GoOps.q (v := .bool false) rfl rfl (by decide) (q_assign rfl) ?_
      refine GoOps.nil ?_
      exact Go.ret ⟨.inl rfl, _, _, DOk.nil, (resOk1 Try.results10 rfl), ⟨_, rfl, h⟩⟩
    · have h := h.2 hc11
      refine Go.condF (btF e10_20 hc11) ?_
      refine Go.skip ?_
      refine Go.seq ?_
      refine Go.region rfl ?_
      refine GoOps.q (v := .pointer y5) rfl rfl (by decide) (q_move e10_3) ?_
      refine call_dst rfl (by decide) body33 (usage_Table_Take_s _ _ _ _ h) rfl ?_
      rintro _ H12 ⟨y13, y14, rfl, h⟩
      refine GoOps.nil ?_
      refine Go.seq ?_
      refine Go.region rfl ?_
      refine GoOps.q (v := .pointer y5) rfl rfl (by decide) (q_move e10_3) ?_
      refine call_dst rfl (by decide) body33 (usage_Table_Take_s _ _ _ _ h) rfl ?_
      rintro _ H15 ⟨y16, y17, rfl, h⟩
      refine GoOps.nil ?_
      refine Go.seq ?_
      refine Go.region rfl ?_
      refine GoOps.q (v := .pointer y2) rfl rfl (by decide) (q_move e10_1) ?_
      refine GoOps.q (v := .pointer y5) rfl rfl (by decide) (q_move e10_3) ?_
      refine call_dst rfl (by decide) body22 (victim_Pick_s _ _ _ _ _ h) rfl ?_
      rintro _ H18 ⟨y19, y20, rfl, h⟩
      refine GoOps.q (v := .tuple #[.int .i64 y19, .bool y20]) rfl rfl (by decide) (q_move rfl) ?_
      refine GoOps.q (v := .int .i64 y19) rfl rfl (by decide) (q_extract rfl rfl) ?_
      refine GoOps.q (v := .bool y20) rfl rfl (by decide) (q_extract rfl rfl) ?_
      refine GoOps.q (v := .int .i64 y19) rfl rfl (by decide) (q_assign rfl) ?_
      refine GoOps.q (v := .bool y20) rfl rfl (by decide) (q_assign rfl) ?_
      refine GoOps.nil ?_
      refine Go.seq ?_
      refine Go.region rfl ?_
      refine GoOps.q (v := .pointer y5) rfl rfl (by decide) (q_move e10_3) ?_
      refine call_dst rfl (by decide) body25 (usage_Table_Seal_s _ _ _ _ h) rfl ?_
      rintro _ H21 ⟨rfl, h⟩
      refine GoOps.nil ?_
      refine Go.seq ?_
      refine Go.region rfl ?_
      refine GoOps.q (v := .pointer y5) rfl rfl (by decide) (q_move e10_3) ?_
      refine call_dst rfl (by decide) body25 (usage_Table_Seal_s _ _ _ _ h) rfl ?_
      rintro _ H22 ⟨rfl, h⟩
      refine GoOps.nil ?_
      refine Go.seq ?_
      refine Go.region rfl ?_
      refine GoOps.q (v := .pointer y5) rfl rfl (by decide) (q_move e10_3) ?_
      refine GoOps.q (v := .pointer y2) rfl rfl (by decide) (q_move e10_1) ?_
      refine call_dst rfl (by decide) body19 (geom_Geom_Seg_s _ _ _ _ h) rfl ?_
      rintro _ H23 ⟨y24, rfl, h⟩
      refine GoOps.q (v := .int .i64 (IntKind.wrap .i64 (y24 + 3))) rfl rfl (by decide) (q_add rfl rfl) ?_
      refine call_dst rfl (by decide) body18 (usage_Table_Add_s _ _ _ _ _ h) rfl ?_
      rintro _ H25 ⟨y26, rfl, h⟩
      refine GoOps.nil ?_
      refine Go.seq ?_
      refine Go.region rfl ?_
      refine GoOps.q (v := .pointer y2) rfl rfl (by decide) (q_move e10_1) ?_
      refine GoOps.q (v := .pointer y5) rfl rfl (by decide) (q_move e10_3) ?_
      refine call_dst rfl (by decide) body22 (victim_Pick_s _ _ _ _ _ h) rfl ?_
      rintro _ H27 ⟨y28, y29, rfl, h⟩
      refine GoOps.q (v := .tuple #[.int .i64 y28, .bool y29]) rfl rfl (by decide) (q_move rfl) ?_
      refine GoOps.q (v := .int .i64 y28) rfl rfl (by decide) (q_extract rfl rfl) ?_
      refine GoOps.q (v := .bool y29) rfl rfl (by decide) (q_extract rfl rfl) ?_
      refine GoOps.q (v := .int .i64 y28) rfl rfl (by decide) (q_assign rfl) ?_
      refine GoOps.q (v := .bool y29) rfl rfl (by decide) (q_assign rfl) ?_
      refine GoOps.nil ?_
      refine Go.seq ?_
      refine Go.region rfl ?_
      refine call_dst rfl (by decide) body8 (victim_Score_s _ _ _ _ _ h) rfl ?_
      rintro _ H30 ⟨y31, rfl, h⟩
      refine GoOps.q (v := .bool (y31 == 10)) rfl rfl (by decide) (q_eql rfl rfl) ?_
      refine GoOps.q (v := .bool (y31 == 10)) rfl rfl (by decide) (q_move rfl) ?_
      refine join_ops 3 (fun ρ (s33 : Bool) => ρ 5 = .bool y20 ∧ ρ 6 = .int .i64 y28 ∧ ρ 7 = .bool y29 ∧ ρ 51 = .bool s33) h ?_ ?_ <;> clear h
      · intro s33 H35 ρ h hE
        obtain ⟨e36_5, e36_6, e36_7, e36_51⟩ := hE
        refine GoOps.q (v := .bool s33) rfl rfl (by decide) (q_move e36_51) ?_
        refine join_ops 3 (fun ρ (s38 : Bool) => ρ 6 = .int .i64 y28 ∧ ρ 7 = .bool y29 ∧ ρ 55 = .bool s38) h ?_ ?_ <;> clear h
        · intro s38 H40 ρ h hE
          obtain ⟨e41_6, e41_7, e41_55⟩ := hE
          refine GoOps.q (v := .bool s38) rfl rfl (by decide) (q_move e41_55) ?_
          refine join_ops 2 (fun ρ (s43 : Bool) => ρ 6 = .int .i64 y28 ∧ ρ 58 = .bool s43) h ?_ ?_ <;> clear h
          · intro s43 H45 ρ h hE
            obtain ⟨e46_6, e46_58⟩ := hE
            refine GoOps.q (v := .bool s43) rfl rfl (by decide) (q_move e46_58) ?_
            refine join_ops 3 (fun ρ (s48 : Bool) => ρ 62 = .bool s48) h ?_ ?_ <;> clear h
            · intro s48 H50 ρ h hE
              have e51_62 := hE
              refine GoOps.q (v := .bool s48) rfl rfl (by decide) (q_move e51_62) ?_
              refine join_ops 4 (fun ρ (s53 : Bool) => ρ 67 = .bool s53) h ?_ ?_ <;> clear h
              · intro s53 H55 ρ h hE
                have e56_67 := hE
                refine GoOps.q (v := .bool s53) rfl rfl (by decide) (q_move e56_67) ?_
                refine join_ops 5 (fun ρ (s58 : Bool) => ρ 73 = .bool s58) h ?_ ?_ <;> clear h
                · intro s58 H60 ρ h hE
                  have e61_73 := hE
                  refine GoOps.q (v := .bool s58) rfl rfl (by decide) (q_assign e61_73) ?_
                  refine GoOps.nil ?_
                  exact Go.ret ⟨.inl rfl, _, _, DOk.nil, (resOk1 Try.results10 rfl), ⟨_, rfl, h⟩⟩
                · intro j59 hj59 h
                  rcases bor s53 with hc57 | hc57
                  · have h := h.1 hc57
                    refine GoOps.q (v := .agg ([.int .i64 2, .int .i64 9, .int .i64 9] : List Value).toArray) (want_yes rfl rfl rfl hc57) rfl (by decide) (q_buildA (ps := [(0, .int .i64 2), (1, .int .i64 9), (2, .int .i64 9)]) (cs := [.int .i64 2, .int .i64 9, .int .i64 9]) array27 zero27 rfl rfl rfl) ?_
                    refine GoOps.q (v := .agg ([.int .i64 2, .int .i64 9, .int .i64 8] : List Value).toArray) (want_yes rfl rfl rfl hc57) rfl (by decide) (q_buildA (ps := [(0, .int .i64 2), (1, .int .i64 9), (2, .int .i64 8)]) (cs := [.int .i64 2, .int .i64 9, .int .i64 8]) array27 zero27 rfl rfl rfl) ?_
                    refine call_dst (want_yes rfl rfl rfl hc57) (by decide) body12 (victim_Better_s _ _ _ _ h) rfl ?_
                    rintro _ H62 ⟨y63, rfl, h⟩
                    refine GoOps.q (v := .bool (!y63)) (want_yes rfl rfl rfl hc57) rfl (by decide) (q_not rfl) ?_
                    refine GoOps.q (v := .bool (!y63)) rfl rfl (by decide) (q_pickT (btT rfl hc57) rfl) ?_
                    exact hj59 (!y63) _ _ h (by exact rfl)
                  · have h := h.2 hc57
                    refine no_dst (want_no rfl rfl rfl hc57) rfl (by decide) ?_
                    refine no_dst (want_no rfl rfl rfl hc57) rfl (by decide) ?_
                    refine no_dst (want_no rfl rfl rfl hc57) rfl (by decide) ?_
                    refine no_dst (want_no rfl rfl rfl hc57) rfl (by decide) ?_
                    refine GoOps.q (v := .bool false) rfl rfl (by decide) (q_pickF (btF rfl hc57) rfl) ?_
                    exact hj59 false _ _ h (by exact rfl)
              · intro j54 hj54 h
                rcases bor s48 with hc52 | hc52
                · have h := h.1 hc52
                  refine GoOps.q (v := .agg ([.int .i64 2, .int .i64 9, .int .i64 9] : List Value).toArray) (want_yes rfl rfl rfl hc52) rfl (by decide) (q_buildA (ps := [(0, .int .i64 2), (1, .int .i64 9), (2, .int .i64 9)]) (cs := [.int .i64 2, .int .i64 9, .int .i64 9]) array27 zero27 rfl rfl rfl) ?_
                  refine GoOps.q (v := .agg ([.int .i64 1, .int .i64 0, .int .i64 0] : List Value).toArray) (want_yes rfl rfl rfl hc52) rfl (by decide) (q_buildA (ps := [(0, .int .i64 1), (1, .int .i64 0), (2, .int .i64 0)]) (cs := [.int .i64 1, .int .i64 0, .int .i64 0]) array27 zero27 rfl rfl rfl) ?_
                  refine call_dst (want_yes rfl rfl rfl hc52) (by decide) body12 (victim_Better_s _ _ _ _ h) rfl ?_
                  rintro _ H64 ⟨y65, rfl, h⟩
                  refine GoOps.q (v := .bool y65) rfl rfl (by decide) (q_pickT (btT rfl hc52) rfl) ?_
                  exact hj54 y65 _ _ h (by exact rfl)
                · have h := h.2 hc52
                  refine no_dst (want_no rfl rfl rfl hc52) rfl (by decide) ?_
                  refine no_dst (want_no rfl rfl rfl hc52) rfl (by decide) ?_
                  refine no_dst (want_no rfl rfl rfl hc52) rfl (by decide) ?_
                  refine GoOps.q (v := .bool false) rfl rfl (by decide) (q_pickF (btF rfl hc52) rfl) ?_
                  exact hj54 false _ _ h (by exact rfl)
            · intro j49 hj49 h
              rcases bor s43 with hc47 | hc47
              · have h := h.1 hc47
                refine GoOps.q (v := .int .i64 y28) (want_yes rfl rfl rfl hc47) rfl (by decide) (q_move e46_6) ?_
                refine GoOps.q (v := .bool (y28 == 1)) (want_yes rfl rfl rfl hc47) rfl (by decide) (q_eql rfl rfl) ?_
                refine GoOps.q (v := .bool (y28 == 1)) rfl rfl (by decide) (q_pickT (btT rfl hc47) rfl) ?_
                exact hj49 (y28 == 1) _ _ h (by exact rfl)
              · have h := h.2 hc47
                refine no_dst (want_no rfl rfl rfl hc47) rfl (by decide) ?_
                refine no_dst (want_no rfl rfl rfl hc47) rfl (by decide) ?_
                refine GoOps.q (v := .bool false) rfl rfl (by decide) (q_pickF (btF rfl hc47) rfl) ?_
                exact hj49 false _ _ h (by exact rfl)
          · intro j44 hj44 h
            rcases bor s38 with hc42 | hc42
            · have h := h.1 hc42
              refine GoOps.q (v := .bool y29) (want_yes rfl rfl rfl hc42) rfl (by decide) (q_move e41_7) ?_
              refine GoOps.q (v := .bool y29) rfl rfl (by decide) (q_pickT (btT rfl hc42) rfl) ?_
              exact hj44 y29 _ _ h (by exact ⟨e41_6, rfl⟩)
            · have h := h.2 hc42
              refine no_dst (want_no rfl rfl rfl hc42) rfl (by decide) ?_
              refine GoOps.q (v := .bool false) rfl rfl (by decide) (q_pickF (btF rfl hc42) rfl) ?_
              exact hj44 false _ _ h (by exact ⟨e41_6, rfl⟩)
        · intro j39 hj39 h
          rcases bor s33 with hc37 | hc37
          · have h := h.1 hc37
            refine GoOps.q (v := .bool y20) (want_yes rfl rfl rfl hc37) rfl (by decide) (q_move e36_5) ?_
            refine GoOps.q (v := .bool (!y20)) (want_yes rfl rfl rfl hc37) rfl (by decide) (q_not rfl) ?_
            refine GoOps.q (v := .bool (!y20)) rfl rfl (by decide) (q_pickT (btT rfl hc37) rfl) ?_
            exact hj39 (!y20) _ _ h (by exact ⟨e36_6, e36_7, rfl⟩)
          · have h := h.2 hc37
            refine no_dst (want_no rfl rfl rfl hc37) rfl (by decide) ?_
            refine no_dst (want_no rfl rfl rfl hc37) rfl (by decide) ?_
            refine GoOps.q (v := .bool false) rfl rfl (by decide) (q_pickF (btF rfl hc37) rfl) ?_
            exact hj39 false _ _ h (by exact ⟨e36_6, e36_7, rfl⟩)
      · intro j34 hj34 h
        rcases bor (y31 == 10) with hc32 | hc32
        · have h := h.1 hc32
          refine call_dst (want_yes rfl rfl rfl hc32) (by decide) body8 (victim_Score_s _ _ _ _ _ h) rfl ?_
          rintro _ H66 ⟨y67, rfl, h⟩
          refine GoOps.q (v := .bool (y67 == 0)) (want_yes rfl rfl rfl hc32) rfl (by decide) (q_eql rfl rfl) ?_
          refine GoOps.q (v := .bool (y67 == 0)) rfl rfl (by decide) (q_pickT (btT rfl hc32) rfl) ?_
          exact hj34 (y67 == 0) _ _ h (by exact ⟨rfl, rfl, rfl, rfl⟩)
        · have h := h.2 hc32
          refine no_dst (want_no rfl rfl rfl hc32) rfl (by decide) ?_
          refine no_dst (want_no rfl rfl rfl hc32) rfl (by decide) ?_
          refine GoOps.q (v := .bool false) rfl rfl (by decide) (q_pickF (btF rfl hc32) rfl) ?_
          exact hj34 false _ _ h (by exact ⟨rfl, rfl, rfl, rfl⟩)
  · intro j8 hj8 h
    rcases bor (y3 != 0) with hc6 | hc6
    · have h := h.1 hc6
      refine no_dst (want_no rfl rfl rfl hc6) rfl (by decide) ?_
      refine no_dst (want_no rfl rfl rfl hc6) rfl (by decide) ?_
      refine GoOps.q (v := .bool true) rfl rfl (by decide) (q_pickT (btT rfl hc6) rfl) ?_
      exact hj8 true _ _ h (by exact ⟨rfl, rfl, rfl⟩)
    · have h := h.2 hc6
      refine GoOps.q (v := .pointer y5) (want_yes rfl rfl rfl hc6) rfl (by decide) (q_move rfl) ?_
      refine GoOps.q (v := .bool (Option.isNone y5)) (want_yes rfl rfl rfl hc6) rfl (by decide) (q_eqlPn Try.underlying41 rfl rfl) ?_
      refine GoOps.q (v := .bool (Option.isNone y5)) rfl rfl (by decide) (q_pickF (btF rfl hc6) rfl) ?_
      exact hj8 (Option.isNone y5) _ _ h (by exact ⟨rfl, rfl, rfl⟩)

/-- keelson.keelsonlaw19.VictimScores -/
def keelsonlaw19_VictimScores (p0 : Int) (p1 : Int) (p2 : Int) (H : PH) (Q : Bool → PH → Prop) : Prop :=
  victim_Score p0 p1 p2 H fun y2 H1 =>
  keelsonref11_Score p0 p1 p2 H1 fun y4 H3 =>
  mJoin (fun (s6 : Bool) (H8 : PH) =>
  Q s6 H8)
  fun j7 =>
  mIf (y2 == y4)
  (keelsonlaw19_awake H3 fun y11 H10 =>
  j7 y11 H10)
  (j7 false H3)

set_option maxRecDepth 20000 in
set_option maxHeartbeats 1000000 in
theorem keelsonlaw19_VictimScores_s (p0 : Int) (p1 : Int) (p2 : Int) (H : PH) (Q : Bool → PH → Prop) (h : keelsonlaw19_VictimScores p0 p1 p2 H Q) :
    CallsH Try.prog 3 #[.int .i64 p0, .int .i64 p1, .int .i64 p2] H (fun v H' => ∃ (r0 : Bool), v = .bool r0 ∧ Q r0 H') := by
  unfold keelsonlaw19_VictimScores at h
  refine callsH_of_go Try.func3 rfl Try.ntmps3 (Nat.le_of_ble_eq_true rfl) ?_
  refine Go.seq ?_
  refine Go.region rfl ?_
  refine GoOps.q (v := .bool false) rfl rfl (by decide) (q_assign rfl) ?_
  refine GoOps.nil ?_
  refine Go.seq ?_
  refine Go.region rfl ?_
  refine GoOps.q (v := .int .i64 p0) rfl rfl (by decide) (q_move rfl) ?_
  refine GoOps.q (v := .int .i64 p1) rfl rfl (by decide) (q_move rfl) ?_
  refine GoOps.q (v := .int .i64 p2) rfl rfl (by decide) (q_move rfl) ?_
  refine call_dst rfl (by decide) body8 (victim_Score_s _ _ _ _ _ h) rfl ?_
  rintro _ H1 ⟨y2, rfl, h⟩
  refine GoOps.q (v := .int .i64 p0) rfl rfl (by decide) (q_move rfl) ?_
  refine GoOps.q (v := .int .i64 p1) rfl rfl (by decide) (q_move rfl) ?_
  refine GoOps.q (v := .int .i64 p2) rfl rfl (by decide) (q_move rfl) ?_
  refine call_dst rfl (by decide) body9 (keelsonref11_Score_s _ _ _ _ _ h) rfl ?_
  rintro _ H3 ⟨y4, rfl, h⟩
  refine GoOps.q (v := .bool (y2 == y4)) rfl rfl (by decide) (q_eql rfl rfl) ?_
  refine GoOps.q (v := .bool (y2 == y4)) rfl rfl (by decide) (q_move rfl) ?_
  refine join_ops 2 (fun ρ (s6 : Bool) => ρ 18 = .bool s6) h ?_ ?_ <;> clear h
  · intro s6 H8 ρ h hE
    have e9_18 := hE
    refine GoOps.q (v := .bool s6) rfl rfl (by decide) (q_assign e9_18) ?_
    refine GoOps.nil ?_
    exact Go.ret ⟨.inl rfl, _, _, DOk.nil, (resOk1 Try.results3 rfl), ⟨_, rfl, h⟩⟩
  · intro j7 hj7 h
    rcases bor (y2 == y4) with hc5 | hc5
    · have h := h.1 hc5
      refine call_dst (want_yes rfl rfl rfl hc5) (by decide) body10 (keelsonlaw19_awake_s _ _ h) rfl ?_
      rintro _ H10 ⟨y11, rfl, h⟩
      refine GoOps.q (v := .bool y11) rfl rfl (by decide) (q_pickT (btT rfl hc5) rfl) ?_
      exact hj7 y11 _ _ h (by exact rfl)
    · have h := h.2 hc5
      refine no_dst (want_no rfl rfl rfl hc5) rfl (by decide) ?_
      refine GoOps.q (v := .bool false) rfl rfl (by decide) (q_pickF (btF rfl hc5) rfl) ?_
      exact hj7 false _ _ h (by exact rfl)


end Go.Proofs.Ytinjkdoikljakaa

import Derived.Test.YtmgmjcjpmfdboaaProg
import Derived.Test.YtmgmjcjpmfdboaaKxF
import Derived.KernelRfl
set_option linter.unusedVariables false
set_option linter.unusedSimpArgs false
namespace Go.Proofs.Ytmgmjcjpmfdboaa
open Go Go.Kx Go.Proofs
theorem foff26_0 : FieldOff Try.prog 26 0 0 := ⟨_, _, 1, Try.underlying26, rfl, rfl, by kernel_rfl, by decide⟩
theorem scalar3 : Scalar Try.prog 3 := ⟨_, Try.underlying3, trivial⟩
theorem aggr26 : Aggr Try.prog 26 3 := ⟨⟨_, Try.underlying26, trivial⟩, by kernel_rfl⟩
theorem places68 : PlacesOf Try.prog 68 [(0, 3)] := ⟨_, Try.underlying68, rfl, by kernel_rfl⟩
theorem zero68 : ZeroOf Try.prog 68 (.agg ([.int .i64 0, .int .i64 0, .int .i64 0] : List Value).toArray) := by unfold ZeroOf; kernel_rfl
theorem foff26_2 : FieldOff Try.prog 26 2 2 := ⟨_, _, 1, Try.underlying26, rfl, rfl, by kernel_rfl, by decide⟩
theorem body36 : Body Try.prog 36 := body_of Try.func36 rfl rfl
theorem foff26_1 : FieldOff Try.prog 26 1 1 := ⟨_, _, 1, Try.underlying26, rfl, rfl, by kernel_rfl, by decide⟩
theorem zero26 : ZeroOf Try.prog 26 (.agg ([.int .i64 0, .int .i64 0, .int .i64 0] : List Value).toArray) := by unfold ZeroOf; kernel_rfl
theorem places26 : PlacesOf Try.prog 26 [(0, 1), (1, 1), (2, 1)] := ⟨_, Try.underlying26, rfl, by kernel_rfl⟩
theorem size26 : (Try.prog.info? 26).map (·.size) = some 3 := by kernel_rfl
theorem mixed : Try.prog.follows .mixedOrders = true := by kernel_rfl
theorem body9 : Body Try.prog 9 := body_of Try.func9 rfl rfl
theorem foff68_0 : FieldOff Try.prog 68 0 0 := ⟨_, _, 3, Try.underlying68, rfl, rfl, by kernel_rfl, by decide⟩
theorem fis26_1 : FieldIs Try.prog 26 1 1 3 := ⟨_, _, Try.underlying26, rfl, rfl, rfl⟩
theorem slice50 : SliceOf Try.prog 50 52 2 := ⟨Try.underlying50, by kernel_rfl⟩
theorem aggr52 : Aggr Try.prog 52 2 := ⟨⟨_, Try.underlying52, trivial⟩, by kernel_rfl⟩
theorem zero52 : ZeroOf Try.prog 52 (.agg ([.int .i64 0, .int .i64 0] : List Value).toArray) := by unfold ZeroOf; kernel_rfl
theorem size52 : (Try.prog.info? 52).map (·.size) = some 2 := by kernel_rfl
theorem foff52_0 : FieldOff Try.prog 52 0 0 := ⟨_, _, 1, Try.underlying52, rfl, rfl, by kernel_rfl, by decide⟩
theorem foff52_1 : FieldOff Try.prog 52 1 1 := ⟨_, _, 1, Try.underlying52, rfl, rfl, by kernel_rfl, by decide⟩
theorem foff71_1 : FieldOff Try.prog 71 1 1 := ⟨_, _, 1, Try.underlying71, rfl, rfl, by kernel_rfl, by decide⟩
theorem scalar50 : Scalar Try.prog 50 := ⟨_, Try.underlying50, trivial⟩
theorem bytes52 : BytesOf Try.prog 52 16 := by unfold BytesOf; kernel_rfl
theorem slice23 : SliceOf Try.prog 23 3 1 := ⟨Try.underlying23, by kernel_rfl⟩
theorem bytes3 : BytesOf Try.prog 3 8 := by unfold BytesOf; kernel_rfl
theorem zero3 : ZeroOf Try.prog 3 (.int .i64 0) := by unfold ZeroOf; kernel_rfl
theorem places71 : PlacesOf Try.prog 71 [(0, 1), (1, 1), (2, 1)] := ⟨_, Try.underlying71, rfl, by kernel_rfl⟩
theorem zero71 : ZeroOf Try.prog 71 (.agg ([.pointer none, .slice none 0 0, .slice none 0 0] : List Value).toArray) := by unfold ZeroOf; kernel_rfl
theorem body37 : Body Try.prog 37 := body_of Try.func37 rfl rfl
theorem foff71_2 : FieldOff Try.prog 71 2 2 := ⟨_, _, 1, Try.underlying71, rfl, rfl, by kernel_rfl, by decide⟩
theorem scalar23 : Scalar Try.prog 23 := ⟨_, Try.underlying23, trivial⟩
theorem size3 : (Try.prog.info? 3).map (·.size) = some 1 := by kernel_rfl
theorem body39 : Body Try.prog 39 := body_of Try.func39 rfl rfl
theorem body12 : Body Try.prog 12 := body_of Try.func12 rfl rfl
theorem body40 : Body Try.prog 40 := body_of Try.func40 rfl rfl
theorem body15 : Body Try.prog 15 := body_of Try.func15 rfl rfl
theorem scalar32 : Scalar Try.prog 32 := ⟨_, Try.underlying32, trivial⟩
theorem body59 : Body Try.prog 59 := body_of Try.func59 rfl rfl
theorem zero23 : ZeroOf Try.prog 23 (.slice none 0 0) := by unfold ZeroOf; kernel_rfl
theorem size23 : (Try.prog.info? 23).map (·.size) = some 1 := by kernel_rfl
theorem body47 : Body Try.prog 47 := body_of Try.func47 rfl rfl
theorem body61 : Body Try.prog 61 := body_of Try.func61 rfl rfl
theorem fis26_0 : FieldIs Try.prog 26 0 0 3 := ⟨_, _, Try.underlying26, rfl, rfl, rfl⟩
theorem body58 : Body Try.prog 58 := body_of Try.func58 rfl rfl
theorem body57 : Body Try.prog 57 := body_of Try.func57 rfl rfl
theorem body44 : Body Try.prog 44 := body_of Try.func44 rfl rfl
theorem body43 : Body Try.prog 43 := body_of Try.func43 rfl rfl
theorem body23 : Body Try.prog 23 := body_of Try.func23 rfl rfl
theorem foff71_0 : FieldOff Try.prog 71 0 0 := ⟨_, _, 1, Try.underlying71, rfl, rfl, by kernel_rfl, by decide⟩
theorem scalar28 : Scalar Try.prog 28 := ⟨_, Try.underlying28, trivial⟩
theorem body42 : Body Try.prog 42 := body_of Try.func42 rfl rfl
theorem body45 : Body Try.prog 45 := body_of Try.func45 rfl rfl
theorem body13 : Body Try.prog 13 := body_of Try.func13 rfl rfl
theorem body21 : Body Try.prog 21 := body_of Try.func21 rfl rfl
theorem body18 : Body Try.prog 18 := body_of Try.func18 rfl rfl
theorem body19 : Body Try.prog 19 := body_of Try.func19 rfl rfl
theorem body22 : Body Try.prog 22 := body_of Try.func22 rfl rfl
theorem body25 : Body Try.prog 25 := body_of Try.func25 rfl rfl
theorem body17 : Body Try.prog 17 := body_of Try.func17 rfl rfl
theorem body10 : Body Try.prog 10 := body_of Try.func10 rfl rfl
theorem body16 : Body Try.prog 16 := body_of Try.func16 rfl rfl
theorem body38 : Body Try.prog 38 := body_of Try.func38 rfl rfl
theorem array22 : ArrayOf Try.prog 22 3 3 1 := ⟨Try.underlying22, by kernel_rfl⟩
theorem body11 : Body Try.prog 11 := body_of Try.func11 rfl rfl
theorem body7 : Body Try.prog 7 := body_of Try.func7 rfl rfl
theorem aggr22 : Aggr Try.prog 22 3 := ⟨⟨_, Try.underlying22, trivial⟩, by kernel_rfl⟩
theorem slice34 : SliceOf Try.prog 34 4 1 := ⟨Try.underlying34, by kernel_rfl⟩
theorem bytes4 : BytesOf Try.prog 4 1 := by unfold BytesOf; kernel_rfl
theorem zero4 : ZeroOf Try.prog 4 (.bool false) := by unfold ZeroOf; kernel_rfl
theorem scalar4 : Scalar Try.prog 4 := ⟨_, Try.underlying4, trivial⟩
theorem size4 : (Try.prog.info? 4).map (·.size) = some 1 := by kernel_rfl
theorem body14 : Body Try.prog 14 := body_of Try.func14 rfl rfl
theorem body8 : Body Try.prog 8 := body_of Try.func8 rfl rfl
theorem zero45 : ZeroOf Try.prog 45 (.agg ([.int .i64 0, .int .i64 0, .int .i64 0, .int .i64 0, .int .i64 0, .int .i64 0, .int .i64 0, .int .i64 0] : List Value).toArray) := by unfold ZeroOf; kernel_rfl
theorem array45 : ArrayOf Try.prog 45 8 3 1 := ⟨Try.underlying45, by kernel_rfl⟩
theorem body20 : Body Try.prog 20 := body_of Try.func20 rfl rfl
theorem body46 : Body Try.prog 46 := body_of Try.func46 rfl rfl
theorem held52 : Try.prog.stoodInHeld 52 = false := by kernel_rfl
theorem eqg52 : Try.prog.eqGuardType Try.prog.depth 52 = false := by kernel_rfl
theorem zero22 : ZeroOf Try.prog 22 (.agg ([.int .i64 0, .int .i64 0, .int .i64 0] : List Value).toArray) := by unfold ZeroOf; kernel_rfl
theorem places52 : PlacesOf Try.prog 52 [(0, 1), (1, 1)] := ⟨_, Try.underlying52, rfl, by kernel_rfl⟩
theorem body26 : Body Try.prog 26 := body_of Try.func26 rfl rfl
theorem body24 : Body Try.prog 24 := body_of Try.func24 rfl rfl
theorem foff81_1 : FieldOff Try.prog 81 1 3 := ⟨_, _, 1, Try.underlying81, rfl, rfl, by kernel_rfl, by decide⟩
theorem body48 : Body Try.prog 48 := body_of Try.func48 rfl rfl
theorem places81 : PlacesOf Try.prog 81 [(0, 3), (3, 1), (4, 1)] := ⟨_, Try.underlying81, rfl, by kernel_rfl⟩
theorem zero81 : ZeroOf Try.prog 81 (.agg ([.int .i64 0, .int .i64 0, .int .i64 0, .slice none 0 0, .slice none 0 0] : List Value).toArray) := by unfold ZeroOf; kernel_rfl
theorem body56 : Body Try.prog 56 := body_of Try.func56 rfl rfl
theorem foff81_2 : FieldOff Try.prog 81 2 4 := ⟨_, _, 1, Try.underlying81, rfl, rfl, by kernel_rfl, by decide⟩
theorem body51 : Body Try.prog 51 := body_of Try.func51 rfl rfl
theorem body50 : Body Try.prog 50 := body_of Try.func50 rfl rfl
theorem body49 : Body Try.prog 49 := body_of Try.func49 rfl rfl
theorem body54 : Body Try.prog 54 := body_of Try.func54 rfl rfl
theorem body53 : Body Try.prog 53 := body_of Try.func53 rfl rfl
theorem body52 : Body Try.prog 52 := body_of Try.func52 rfl rfl
theorem body64 : Body Try.prog 64 := body_of Try.func64 rfl rfl
theorem body63 : Body Try.prog 63 := body_of Try.func63 rfl rfl
theorem body62 : Body Try.prog 62 := body_of Try.func62 rfl rfl
theorem body60 : Body Try.prog 60 := body_of Try.func60 rfl rfl
theorem foff81_0 : FieldOff Try.prog 81 0 0 := ⟨_, _, 3, Try.underlying81, rfl, rfl, by kernel_rfl, by decide⟩
theorem body55 : Body Try.prog 55 := body_of Try.func55 rfl rfl
theorem slice57 : SliceOf Try.prog 57 62 3 := ⟨Try.underlying57, by kernel_rfl⟩
theorem aggr62 : Aggr Try.prog 62 3 := ⟨⟨_, Try.underlying62, trivial⟩, by kernel_rfl⟩
theorem zero62 : ZeroOf Try.prog 62 (.agg ([.int .i64 0, .int .i64 0, .int .i64 0] : List Value).toArray) := by unfold ZeroOf; kernel_rfl
theorem size62 : (Try.prog.info? 62).map (·.size) = some 3 := by kernel_rfl
theorem foff62_0 : FieldOff Try.prog 62 0 0 := ⟨_, _, 1, Try.underlying62, rfl, rfl, by kernel_rfl, by decide⟩
theorem body28 : Body Try.prog 28 := body_of Try.func28 rfl rfl
theorem foff62_1 : FieldOff Try.prog 62 1 1 := ⟨_, _, 1, Try.underlying62, rfl, rfl, by kernel_rfl, by decide⟩
theorem foff62_2 : FieldOff Try.prog 62 2 2 := ⟨_, _, 1, Try.underlying62, rfl, rfl, by kernel_rfl, by decide⟩
theorem body29 : Body Try.prog 29 := body_of Try.func29 rfl rfl
theorem body31 : Body Try.prog 31 := body_of Try.func31 rfl rfl
theorem body30 : Body Try.prog 30 := body_of Try.func30 rfl rfl
theorem body33 : Body Try.prog 33 := body_of Try.func33 rfl rfl
theorem body32 : Body Try.prog 32 := body_of Try.func32 rfl rfl
theorem body34 : Body Try.prog 34 := body_of Try.func34 rfl rfl
theorem body35 : Body Try.prog 35 := body_of Try.func35 rfl rfl
theorem body27 : Body Try.prog 27 := body_of Try.func27 rfl rfl

/-- keelson.geom.within -/
def geom_within (p0 : Int) (p1 : Int) (p2 : Int) (H : PH) (Q : Bool → PH → Prop) : Prop :=
  mJoin (fun (s2 : Bool) (H4 : PH) =>
  Q s2 H4)
  fun j3 =>
  mIf (decide (p1 ≤ p0))
  (j3 (decide (p0 ≤ p2)) H)
  (j3 false H)

set_option maxRecDepth 20000 in
set_option maxHeartbeats 1000000 in
theorem geom_within_s (p0 : Int) (p1 : Int) (p2 : Int) (H : PH) (Q : Bool → PH → Prop) (h : geom_within p0 p1 p2 H Q) :
    CallsH Try.prog 36 #[.int .i64 p0, .int .i64 p1, .int .i64 p2] H (fun v H' => ∃ (r0 : Bool), v = .bool r0 ∧ Q r0 H') := by
  unfold geom_within at h
  refine callsH_of_go Try.func36 rfl Try.ntmps36 (Nat.le_of_ble_eq_true rfl) ?_
  refine Go.seq ?_
  refine Go.region rfl ?_
  refine GoOps.q (v := .bool false) rfl rfl (by decide) (q_assign rfl) ?_
  refine GoOps.nil ?_
  refine Go.seq ?_
  refine Go.region rfl ?_
  refine GoOps.q (v := .int .i64 p0) rfl rfl (by decide) (q_move rfl) ?_
  refine GoOps.q (v := .int .i64 p1) rfl rfl (by decide) (q_move rfl) ?_
  refine GoOps.q (v := .bool (decide (p1 ≤ p0))) rfl rfl (by decide) (q_geq rfl rfl) ?_
  refine GoOps.q (v := .bool (decide (p1 ≤ p0))) rfl rfl (by decide) (q_move rfl) ?_
  refine join_ops 4 (fun ρ (s2 : Bool) => ρ 14 = .bool s2) h ?_ ?_ <;> clear h
  · intro s2 H4 ρ h hE
    have e5_14 := hE
    refine GoOps.q (v := .bool s2) rfl rfl (by decide) (q_assign e5_14) ?_
    refine GoOps.nil ?_
    exact Go.ret ⟨.inl rfl, _, _, DOk.nil, (resOk1 Try.results36 rfl), ⟨_, rfl, h⟩⟩
  · intro j3 hj3 h
    rcases bor (decide (p1 ≤ p0)) with hc1 | hc1
    · have h := h.1 hc1
      refine GoOps.q (v := .int .i64 p0) (want_yes rfl rfl rfl hc1) rfl (by decide) (q_move rfl) ?_
      refine GoOps.q (v := .int .i64 p2) (want_yes rfl rfl rfl hc1) rfl (by decide) (q_move rfl) ?_
      refine GoOps.q (v := .bool (decide (p0 ≤ p2))) (want_yes rfl rfl rfl hc1) rfl (by decide) (q_leq rfl rfl) ?_
      refine GoOps.q (v := .bool (decide (p0 ≤ p2))) rfl rfl (by decide) (q_pickT (btT rfl hc1) rfl) ?_
      exact hj3 (decide (p0 ≤ p2)) _ _ h (by exact rfl)
    · have h := h.2 hc1
      refine no_dst (want_no rfl rfl rfl hc1) rfl (by decide) ?_
      refine no_dst (want_no rfl rfl rfl hc1) rfl (by decide) ?_
      refine no_dst (want_no rfl rfl rfl hc1) rfl (by decide) ?_
      refine GoOps.q (v := .bool false) rfl rfl (by decide) (q_pickF (btF rfl hc1) rfl) ?_
      exact hj3 false _ _ h (by exact rfl)

/-- keelson.geom.New -/
def geom_New (p0 : (Int × Int × Int)) (H : PH) (Q : Option Addr → Int → PH → Prop) : Prop :=
  mNew H (row [.int .i64 p0.1, .int .i64 p0.2.1, .int .i64 p0.2.2] 26) fun a1 H2 =>
  mLd (.int .i64) H2 (a1.add 0) fun x4 =>
  geom_within x4 1 64 H2 fun y7 H6 =>
  mJoin (fun (s9 : Bool) (H11 : PH) =>
  mJoin (fun (s14 : Bool) (H16 : PH) =>
  mIf s14
  (Q none 1 H16)
  (mLdR (fun (x : (Int × Int × Int)) => [.int .i64 x.1, .int .i64 x.2.1, .int .i64 x.2.2]) H16 a1 3 fun x19 =>
  mNew H16 (row [.int .i64 x19.1, .int .i64 x19.2.1, .int .i64 x19.2.2] 68) fun a21 H22 =>
  Q (some a21) 0 H22))
  fun j15 =>
  mIf s9
  (j15 true H11)
  (mLd (.int .i64) H11 (a1.add 2) fun x24 =>
  geom_within x24 24 64 H11 fun y27 H26 =>
  j15 (!y27) H26))
  fun j10 =>
  mIf (!y7)
  (j10 true H6)
  (mLd (.int .i64) H6 (a1.add 1) fun x28 =>
  geom_within x28 8 32 H6 fun y31 H30 =>
  j10 (!y31) H30)

set_option maxRecDepth 20000 in
set_option maxHeartbeats 1000000 in
theorem geom_New_s (p0 : (Int × Int × Int)) (H : PH) (Q : Option Addr → Int → PH → Prop) (h : geom_New p0 H Q) :
    CallsH Try.prog 9 #[.agg ([.int .i64 p0.1, .int .i64 p0.2.1, .int .i64 p0.2.2] : List Value).toArray] H (fun v H' => ∃ (r0 : Option Addr) (r1 : Int), v = .tuple #[.pointer r0, .int .i64 r1] ∧ Q r0 r1 H') := by
  unfold geom_New at h
  refine callsH_of_go Try.func9 rfl Try.ntmps9 (Nat.le_of_ble_eq_true rfl) ?_
  refine Go.seq ?_
  refine Go.region rfl ?_
  refine op_dst rfl rfl (by decide) (do_newBox (cs := [.int .i64 p0.1, .int .i64 p0.2.1, .int .i64 p0.2.2]) rfl rfl fun a1 H2 hb3 => ?_) 
  have h := h a1 H2 hb3
  refine GoOps.q (v := .pointer none) rfl rfl (by decide) (q_assign rfl) ?_
  refine GoOps.q (v := .int .i64 0) rfl rfl (by decide) (q_assign rfl) ?_
  refine GoOps.nil ?_
  refine Go.seq ?_
  refine Go.seq ?_
  refine Go.region rfl ?_
  refine GoOps.q (v := .pointer (some (a1.add 0))) rfl rfl (by decide) (q_fieldAddr foff26_0 rfl) ?_
  obtain ⟨x4, hx5, h⟩ := h
  refine GoOps.q (v := .int .i64 x4) rfl rfl (by decide) (q_load scalar3 rfl hx5) ?_
  refine call_dst rfl (by decide) body36 (geom_within_s _ _ _ _ _ h) rfl ?_
  rintro _ H6 ⟨y7, rfl, h⟩
  refine GoOps.q (v := .bool (!y7)) rfl rfl (by decide) (q_not rfl) ?_
  refine GoOps.q (v := .bool (!y7)) rfl rfl (by decide) (q_move rfl) ?_
  refine join_ops 5 (fun ρ (s9 : Bool) => ρ 1 = .pointer (some a1) ∧ ρ 13 = .bool s9) h ?_ ?_ <;> clear h
  · intro s9 H11 ρ h hE
    obtain ⟨e12_1, e12_13⟩ := hE
    refine GoOps.q (v := .bool s9) rfl rfl (by decide) (q_move e12_13) ?_
    refine join_ops 5 (fun ρ (s14 : Bool) => ρ 1 = .pointer (some a1) ∧ ρ 19 = .bool s14) h ?_ ?_ <;> clear h
    · intro s14 H16 ρ h hE
      obtain ⟨e17_1, e17_19⟩ := hE
      refine GoOps.nil ?_
      rcases bor s14 with hc18 | hc18
      · have h := h.1 hc18
        refine Go.condT (btT e17_19 hc18) ?_
        refine Go.seq ?_
        refine Go.region rfl ?_
        refine GoOps.q (v := .pointer none) rfl rfl (by decide) (q_assign rfl) ?_
        refine GoOps.q (v := .int .i64 1) rfl rfl (by decide) (q_assign rfl) ?_
        refine GoOps.nil ?_
        exact Go.ret ⟨.inl rfl, _, _, DOk.nil, (resOk2 Try.results9 rfl rfl), ⟨_, _, rfl, h⟩⟩
      · have h := h.2 hc18
        refine Go.condF (btF e17_19 hc18) ?_
        refine Go.skip ?_
        refine Go.seq ?_
        refine Go.region rfl ?_
        obtain ⟨x19, hx20, h⟩ := h
        refine GoOps.q (v := .agg ([.int .i64 x19.1, .int .i64 x19.2.1, .int .i64 x19.2.2] : List Value).toArray) rfl rfl (by decide) (q_loadA aggr26 e17_1 hx20) ?_
        refine GoOps.q (v := .agg ([.int .i64 x19.1, .int .i64 x19.2.1, .int .i64 x19.2.2] : List Value).toArray) rfl rfl (by decide) (q_build (ps := [(0, .agg ([.int .i64 x19.1, .int .i64 x19.2.1, .int .i64 x19.2.2] : List Value).toArray)]) (cs := [.int .i64 x19.1, .int .i64 x19.2.1, .int .i64 x19.2.2]) places68 zero68 rfl rfl rfl) ?_
        refine op_dst rfl rfl (by decide) (do_newBox (cs := [.int .i64 x19.1, .int .i64 x19.2.1, .int .i64 x19.2.2]) rfl rfl fun a21 H22 hb23 => ?_) 
        have h := h a21 H22 hb23
        refine GoOps.q (v := .pointer (some a21)) rfl rfl (by decide) (q_assign rfl) ?_
        refine GoOps.q (v := .int .i64 0) rfl rfl (by decide) (q_assign rfl) ?_
        refine GoOps.nil ?_
        exact Go.ret ⟨.inl rfl, _, _, DOk.nil, (resOk2 Try.results9 rfl rfl), ⟨_, _, rfl, h⟩⟩
    · intro j15 hj15 h
      rcases bor s9 with hc13 | hc13
      · have h := h.1 hc13
        refine no_dst (want_no rfl rfl rfl hc13) rfl (by decide) ?_
        refine no_dst (want_no rfl rfl rfl hc13) rfl (by decide) ?_
        refine no_dst (want_no rfl rfl rfl hc13) rfl (by decide) ?_
        refine no_dst (want_no rfl rfl rfl hc13) rfl (by decide) ?_
        refine GoOps.q (v := .bool true) rfl rfl (by decide) (q_pickT (btT rfl hc13) rfl) ?_
        exact hj15 true _ _ h (by exact ⟨e12_1, rfl⟩)
      · have h := h.2 hc13
        refine GoOps.q (v := .pointer (some (a1.add 2))) (want_yes rfl rfl rfl hc13) rfl (by decide) (q_fieldAddr foff26_2 e12_1) ?_
        obtain ⟨x24, hx25, h⟩ := h
        refine GoOps.q (v := .int .i64 x24) (want_yes rfl rfl rfl hc13) rfl (by decide) (q_load scalar3 rfl hx25) ?_
        refine call_dst (want_yes rfl rfl rfl hc13) (by decide) body36 (geom_within_s _ _ _ _ _ h) rfl ?_
        rintro _ H26 ⟨y27, rfl, h⟩
        refine GoOps.q (v := .bool (!y27)) (want_yes rfl rfl rfl hc13) rfl (by decide) (q_not rfl) ?_
        refine GoOps.q (v := .bool (!y27)) rfl rfl (by decide) (q_pickF (btF rfl hc13) rfl) ?_
        exact hj15 (!y27) _ _ h (by exact ⟨e12_1, rfl⟩)
  · intro j10 hj10 h
    rcases bor (!y7) with hc8 | hc8
    · have h := h.1 hc8
      refine no_dst (want_no rfl rfl rfl hc8) rfl (by decide) ?_
      refine no_dst (want_no rfl rfl rfl hc8) rfl (by decide) ?_
      refine no_dst (want_no rfl rfl rfl hc8) rfl (by decide) ?_
      refine no_dst (want_no rfl rfl rfl hc8) rfl (by decide) ?_
      refine GoOps.q (v := .bool true) rfl rfl (by decide) (q_pickT (btT rfl hc8) rfl) ?_
      exact hj10 true _ _ h (by exact ⟨rfl, rfl⟩)
    · have h := h.2 hc8
      refine GoOps.q (v := .pointer (some (a1.add 1))) (want_yes rfl rfl rfl hc8) rfl (by decide) (q_fieldAddr foff26_1 rfl) ?_
      obtain ⟨x28, hx29, h⟩ := h
      refine GoOps.q (v := .int .i64 x28) (want_yes rfl rfl rfl hc8) rfl (by decide) (q_load scalar3 rfl hx29) ?_
      refine call_dst (want_yes rfl rfl rfl hc8) (by decide) body36 (geom_within_s _ _ _ _ _ h) rfl ?_
      rintro _ H30 ⟨y31, rfl, h⟩
      refine GoOps.q (v := .bool (!y31)) (want_yes rfl rfl rfl hc8) rfl (by decide) (q_not rfl) ?_
      refine GoOps.q (v := .bool (!y31)) rfl rfl (by decide) (q_pickF (btF rfl hc8) rfl) ?_
      exact hj10 (!y31) _ _ h (by exact ⟨rfl, rfl⟩)

/-- keelson.keelsonlaw12.eight -/
def keelsonlaw12_eight (H : PH) (Q : Option Addr → (Int × Int × Int) → Bool → PH → Prop) : Prop :=
  mNew H (row [.int .i64 0, .int .i64 0, .int .i64 0] 26) fun a1 H2 =>
  mNew H2 (row [.int .i64 0, .int .i64 0, .int .i64 0] 26) fun a4 H5 =>
  mSt H5 a4 ([.int .i64 4, .int .i64 8, .int .i64 24]) fun H7 =>
  mLdR (fun (x : (Int × Int × Int)) => [.int .i64 x.1, .int .i64 x.2.1, .int .i64 x.2.2]) H7 a4 3 fun x9 =>
  geom_New (x9.1, x9.2.1, x9.2.2) H7 fun y12 y13 H11 =>
  mLdR (fun (x : (Int × Int × Int)) => [.int .i64 x.1, .int .i64 x.2.1, .int .i64 x.2.2]) H11 a4 3 fun x14 =>
  mJoin (fun (s17 : Bool) (H19 : PH) =>
  mSt H19 a1 ([.int .i64 x14.1, .int .i64 x14.2.1, .int .i64 x14.2.2]) fun H21 =>
  mLdR (fun (x : (Int × Int × Int)) => [.int .i64 x.1, .int .i64 x.2.1, .int .i64 x.2.2]) H21 a1 3 fun x23 =>
  Q y12 (x23.1, x23.2.1, x23.2.2) s17 H21)
  fun j18 =>
  mIf (y13 == 0)
  (j18 (!(Option.isNone y12)) H11)
  (j18 false H11)

set_option maxRecDepth 20000 in
set_option maxHeartbeats 1000000 in
theorem keelsonlaw12_eight_s (H : PH) (Q : Option Addr → (Int × Int × Int) → Bool → PH → Prop) (h : keelsonlaw12_eight H Q) :
    CallsH Try.prog 16 #[] H (fun v H' => ∃ (r0 : Option Addr) (r1 : (Int × Int × Int)) (r2 : Bool), v = .tuple #[.pointer r0, .agg ([.int .i64 r1.1, .int .i64 r1.2.1, .int .i64 r1.2.2] : List Value).toArray, .bool r2] ∧ Q r0 r1 r2 H') := by
  unfold keelsonlaw12_eight at h
  refine callsH_of_go Try.func16 rfl Try.ntmps16 (Nat.le_of_ble_eq_true rfl) ?_
  refine Go.seq ?_
  refine Go.region rfl ?_
  refine GoOps.q (v := .pointer none) rfl rfl (by decide) (q_assign rfl) ?_
  refine op_dst rfl rfl (by decide) (do_new zero26 rfl fun a1 H2 hb3 => ?_) 
  have h := h a1 H2 hb3
  refine GoOps.q (v := .bool false) rfl rfl (by decide) (q_assign rfl) ?_
  refine GoOps.nil ?_
  refine Go.seq ?_
  refine Go.region rfl ?_
  refine GoOps.q (v := .agg ([.int .i64 4, .int .i64 8, .int .i64 24] : List Value).toArray) rfl rfl (by decide) (q_build (ps := [(0, .int .i64 4), (1, .int .i64 8), (2, .int .i64 24)]) (cs := [.int .i64 4, .int .i64 8, .int .i64 24]) places26 zero26 rfl rfl rfl) ?_
  refine op_dst rfl rfl (by decide) (do_new zero26 rfl fun a4 H5 hb6 => ?_) 
  have h := h a4 H5 hb6
  obtain ⟨q8b, q8o, q8c, q8e, hq8a, hq8b, hq8l, hq8v, h⟩ := h
  refine op_none rfl rfl (do_store (vs := [.int .i64 4, .int .i64 8, .int .i64 24]) size26 (pta rfl hq8a) rfl rfl rfl hq8v hq8b hq8l ?_) 
  refine GoOps.nil ?_
  refine Go.seq ?_
  refine Go.region rfl ?_
  obtain ⟨x9, hx10, h⟩ := h
  refine GoOps.q (v := .agg ([.int .i64 x9.1, .int .i64 x9.2.1, .int .i64 x9.2.2] : List Value).toArray) rfl rfl (by decide) (q_loadA aggr26 rfl hx10) ?_
  refine call_dst rfl (by decide) body9 (geom_New_s _ _ _ h) rfl ?_
  rintro _ H11 ⟨y12, y13, rfl, h⟩
  refine GoOps.q (v := .tuple #[.pointer y12, .int .i64 y13]) rfl rfl (by decide) (q_move rfl) ?_
  refine GoOps.q (v := .pointer y12) rfl rfl (by decide) (q_extract rfl rfl) ?_
  refine GoOps.q (v := .int .i64 y13) rfl rfl (by decide) (q_extract rfl rfl) ?_
  refine GoOps.q (v := .pointer y12) rfl rfl (by decide) (q_assign rfl) ?_
  refine GoOps.q (v := .int .i64 y13) rfl rfl (by decide) (q_assign rfl) ?_
  refine GoOps.nil ?_
  refine Go.seq ?_
  refine Go.draw mixed ?_
  refine plan_pure (i := 0) (d := 12) (S2 := 1) (v := .pointer y12) rfl (by decide +kernel) rfl (q_move rfl) ?_
  obtain ⟨x14, hx15, h⟩ := h
  refine plan_load (i := 1) (d := 13) (S2 := 3) (v := .agg ([.int .i64 x14.1, .int .i64 x14.2.1, .int .i64 x14.2.2] : List Value).toArray) rfl (by decide +kernel) rfl (q_loadA aggr26 rfl hx15) ?_
  refine plan_pure (i := 2) (d := 14) (S2 := 7) (v := .int .i64 y13) rfl (by decide +kernel) rfl (q_move rfl) ?_
  refine plan_pure (i := 3) (d := 15) (S2 := 15) (v := .bool (y13 == 0)) rfl (by decide +kernel) rfl (q_eql rfl rfl) ?_
  refine plan_pure (i := 4) (d := 16) (S2 := 31) (v := .bool (y13 == 0)) rfl (by decide +kernel) rfl (q_move rfl) ?_
  refine plan_pure (i := 8) (d := 0) (S2 := 287) (v := .pointer y12) rfl (by decide +kernel) rfl (q_assign rfl) ?_
  refine join_plan 511 [1] (fun ρ (s17 : Bool) => ρ 0 = .pointer y12 ∧ ρ 1 = .pointer (some a1) ∧ ρ 2 = .bool false ∧ ρ 13 = .agg ([.int .i64 x14.1, .int .i64 x14.2.1, .int .i64 x14.2.2] : List Value).toArray ∧ ρ 19 = .bool s17) h ?_ ?_ <;> clear h
  · intro s17 H19 ρ h hE
    obtain ⟨e20_0, e20_1, e20_2, e20_13, e20_19⟩ := hE
    refine plan_one (j := 9) (S2 := 1023) (by decide +kernel) rfl (by decide) rfl ?_
    obtain ⟨q22b, q22o, q22c, q22e, hq22a, hq22b, hq22l, hq22v, h⟩ := h
    refine do_store (vs := [.int .i64 x14.1, .int .i64 x14.2.1, .int .i64 x14.2.2]) size26 (pta e20_1 hq22a) e20_13 rfl rfl hq22v hq22b hq22l ?_
    refine ⟨_, (.inl ⟨⟨[9], by decide +kernel, rfl⟩, rfl⟩), ?_⟩
    refine plan_pure (i := 10) (d := 2) (S2 := 2047) (v := .bool s17) rfl (by decide +kernel) rfl (q_assign e20_19) ?_
    refine plan_done (by decide +kernel) ?_
    obtain ⟨x23, hx24, h⟩ := h
    exact Go.ret ⟨.inl rfl, _, _, DOk.nil, (resOkV3 Try.results16 (rv_tmp e20_0) (rv_cellA aggr26 e20_1 hx24) (rv_tmp rfl)), ⟨_, _, _, rfl, h⟩⟩
  · intro j18 hj18 h
    rcases bor (y13 == 0) with hc16 | hc16
    · have h := h.1 hc16
      refine plan_pure (i := 5) (d := 17) (S2 := 319) (v := .pointer y12) rfl (by decide +kernel) (want_yes rfl rfl rfl hc16) (q_move rfl) ?_
      refine plan_pure (i := 6) (d := 18) (S2 := 383) (v := .bool (!(Option.isNone y12))) rfl (by decide +kernel) (want_yes rfl rfl rfl hc16) (q_neqPn Try.underlying28 rfl rfl) ?_
      refine plan_pure (i := 7) (d := 19) (S2 := 511) (v := .bool (!(Option.isNone y12))) rfl (by decide +kernel) rfl (q_pickT (btT rfl hc16) rfl) ?_
      exact hj18 _ _ _ h ⟨rfl, rfl, rfl, rfl, rfl⟩
    · have h := h.2 hc16
      refine plan_skip (i := 5) (d := 17) (S2 := 319) rfl (by decide +kernel) (want_no rfl rfl rfl hc16) ?_
      refine plan_skip (i := 6) (d := 18) (S2 := 383) rfl (by decide +kernel) (want_no rfl rfl rfl hc16) ?_
      refine plan_pure (i := 7) (d := 19) (S2 := 511) (v := .bool false) rfl (by decide +kernel) rfl (q_pickF (btF rfl hc16) rfl) ?_
      exact hj18 _ _ _ h ⟨rfl, rfl, rfl, rfl, rfl⟩

/-- (*keelson.geom.Geom).Config -/
def geom_Geom_Config (p0 : Option Addr) (H : PH) (Q : (Int × Int × Int) → PH → Prop) : Prop :=
  mNew H (row [.int .i64 0, .int .i64 0, .int .i64 0] 26) fun a1 H2 =>
  mIf (Option.isNone p0)
  (mSt H2 a1 ([.int .i64 0, .int .i64 0, .int .i64 0]) fun H5 =>
  mLdR (fun (x : (Int × Int × Int)) => [.int .i64 x.1, .int .i64 x.2.1, .int .i64 x.2.2]) H5 a1 3 fun x7 =>
  Q (x7.1, x7.2.1, x7.2.2) H5)
  (mNil p0 fun a9 =>
  mLdR (fun (x : (Int × Int × Int)) => [.int .i64 x.1, .int .i64 x.2.1, .int .i64 x.2.2]) H2 (a9.add 0) 3 fun x11 =>
  mSt H2 a1 ([.int .i64 x11.1, .int .i64 x11.2.1, .int .i64 x11.2.2]) fun H13 =>
  mLdR (fun (x : (Int × Int × Int)) => [.int .i64 x.1, .int .i64 x.2.1, .int .i64 x.2.2]) H13 a1 3 fun x15 =>
  Q (x15.1, x15.2.1, x15.2.2) H13)

set_option maxRecDepth 20000 in
set_option maxHeartbeats 1000000 in
theorem geom_Geom_Config_s (p0 : Option Addr) (H : PH) (Q : (Int × Int × Int) → PH → Prop) (h : geom_Geom_Config p0 H Q) :
    CallsH Try.prog 37 #[.pointer p0] H (fun v H' => ∃ (r0 : (Int × Int × Int)), v = .agg ([.int .i64 r0.1, .int .i64 r0.2.1, .int .i64 r0.2.2] : List Value).toArray ∧ Q r0 H') := by
  unfold geom_Geom_Config at h
  refine callsH_of_go Try.func37 rfl Try.ntmps37 (Nat.le_of_ble_eq_true rfl) ?_
  refine Go.seq ?_
  refine Go.region rfl ?_
  refine op_dst rfl rfl (by decide) (do_new zero26 rfl fun a1 H2 hb3 => ?_) 
  have h := h a1 H2 hb3
  refine GoOps.nil ?_
  refine Go.seq ?_
  refine Go.seq ?_
  refine Go.region rfl ?_
  refine GoOps.q (v := .pointer p0) rfl rfl (by decide) (q_move rfl) ?_
  refine GoOps.q (v := .bool (Option.isNone p0)) rfl rfl (by decide) (q_eqlPn Try.underlying28 rfl rfl) ?_
  refine GoOps.nil ?_
  rcases bor (Option.isNone p0) with hc4 | hc4
  · have h := h.1 hc4
    refine Go.condT (btT rfl hc4) ?_
    refine Go.seq ?_
    refine Go.region rfl ?_
    refine GoOps.q (v := .agg ([.int .i64 0, .int .i64 0, .int .i64 0] : List Value).toArray) rfl rfl (by decide) (q_build (ps := []) (cs := [.int .i64 0, .int .i64 0, .int .i64 0]) places26 zero26 rfl rfl rfl) ?_
    obtain ⟨q6b, q6o, q6c, q6e, hq6a, hq6b, hq6l, hq6v, h⟩ := h
    refine op_none rfl rfl (do_store (vs := [.int .i64 0, .int .i64 0, .int .i64 0]) size26 (pta rfl hq6a) rfl rfl rfl hq6v hq6b hq6l ?_) 
    refine GoOps.nil ?_
    obtain ⟨x7, hx8, h⟩ := h
    exact Go.ret ⟨.inl rfl, _, _, DOk.nil, (resOkV1 Try.results37 (rv_cellA aggr26 rfl hx8)), ⟨_, rfl, h⟩⟩
  · have h := h.2 hc4
    refine Go.condF (btF rfl hc4) ?_
    refine Go.skip ?_
    refine Go.seq ?_
    refine Go.region rfl ?_
    refine GoOps.q (v := .pointer p0) rfl rfl (by decide) (q_move rfl) ?_
    obtain ⟨a9, ha10, h⟩ := h
    refine GoOps.q (v := .pointer (some a9)) rfl rfl (by decide) (q_nilCheck (ptn rfl ha10)) ?_
    refine GoOps.q (v := .pointer (some (a9.add 0))) rfl rfl (by decide) (q_fieldAddr foff68_0 rfl) ?_
    obtain ⟨x11, hx12, h⟩ := h
    refine GoOps.q (v := .agg ([.int .i64 x11.1, .int .i64 x11.2.1, .int .i64 x11.2.2] : List Value).toArray) rfl rfl (by decide) (q_loadA aggr26 rfl hx12) ?_
    obtain ⟨q14b, q14o, q14c, q14e, hq14a, hq14b, hq14l, hq14v, h⟩ := h
    refine op_none rfl rfl (do_store (vs := [.int .i64 x11.1, .int .i64 x11.2.1, .int .i64 x11.2.2]) size26 (pta rfl hq14a) rfl rfl rfl hq14v hq14b hq14l ?_) 
    refine GoOps.nil ?_
    obtain ⟨x15, hx16, h⟩ := h
    exact Go.ret ⟨.inl rfl, _, _, DOk.nil, (resOkV1 Try.results37 (rv_cellA aggr26 rfl hx16)), ⟨_, rfl, h⟩⟩

/-- keelson.usage.New -/
def usage_New (p0 : Option Addr) (p1 : Sl) (H : PH) (Q : Option Addr → PH → Prop) : Prop :=
  geom_Geom_Config p0 H fun y2 H1 =>
  mJoin (fun (s4 : Bool) (H6 : PH) =>
  mIf s4
  (Q none H6)
  (mLoop (fun (s9 : Int) (H12 : PH) (again10 : Int → PH → Prop) =>
  mIf (decide (s9 < (p1.len : Int)))
  (mIdx p1 2 s9 fun a14 =>
  mLdR (fun (x : (Int × Int)) => [.int .i64 x.1, .int .i64 x.2]) H12 a14 2 fun x16 =>
  mNew H12 (row [.int .i64 0, .int .i64 0] 52) fun a18 H19 =>
  mSt H19 a18 ([.int .i64 x16.1, .int .i64 x16.2]) fun H21 =>
  mLd (.int .i64) H21 (a18.add 0) fun x23 =>
  mJoin (fun (s26 : Bool) (H28 : PH) =>
  mJoin (fun (s31 : Bool) (H33 : PH) =>
  mJoin (fun (s36 : Bool) (H38 : PH) =>
  mIf s36
  (Q none H38)
  (again10 (IntKind.wrap .i64 (s9 + 1)) H38))
  fun j37 =>
  mIf s31
  (j37 true H33)
  (mLd (.int .i64) H33 (a18.add 1) fun x41 =>
  j37 (decide (2147483647 < x41)) H33))
  fun j32 =>
  mIf s26
  (j32 true H28)
  (mLd (.int .i64) H28 (a18.add 1) fun x43 =>
  j32 (decide (x43 < 0)) H28))
  fun j27 =>
  mIf (decide (x23 < 0))
  (j27 true H21)
  (mLd (.int .i64) H21 (a18.add 0) fun x45 =>
  j27 (decide (2 < x45)) H21))
  (mJoin (fun (s47 : Option Addr) (H49 : PH) =>
  mNil s47 fun a51 =>
  mLd Sl.v H49 (a51.add 1) fun x53 =>
  mCopy H49 2 x53 p1 fun x55 H56 =>
  Q s47 H56)
  fun j48 =>
  mBoth (MkOk 16 y2.2.1 y2.2.1) <|
  mBoth (MkOk 8 y2.2.1 y2.2.1) <|
  mNewSI H12 (row (zeros (y2.2.1 : Int).toNat [.int .i64 0, .int .i64 0]) 52) y2.2.1 y2.2.1 fun r59 H60 =>
  mNewSI H60 (row (zeros (y2.2.1 : Int).toNat [.int .i64 0]) 3) y2.2.1 y2.2.1 fun r62 H63 =>
  mNew H63 (row [.pointer p0, Sl.v r59, Sl.v r62] 71) fun a65 H66 =>
  j48 (some a65) H66))
  0 H6))
  fun j5 =>
  mIf (Option.isNone p0)
  (j5 true H1)
  (mJoin (fun (s79 : Bool) (H81 : PH) =>
  j5 s79 H81)
  fun j80 =>
  mIf ((p1.len : Int) != 0)
  (j80 ((p1.len : Int) != y2.2.1) H1)
  (j80 false H1))

set_option maxRecDepth 20000 in
set_option maxHeartbeats 1000000 in
theorem usage_New_s (p0 : Option Addr) (p1 : Sl) (H : PH) (Q : Option Addr → PH → Prop) (h : usage_New p0 p1 H Q) :
    CallsH Try.prog 10 #[.pointer p0, Sl.v p1] H (fun v H' => ∃ (r0 : Option Addr), v = .pointer r0 ∧ Q r0 H') := by
  unfold usage_New at h
  refine callsH_of_go Try.func10 rfl Try.ntmps10 (Nat.le_of_ble_eq_true rfl) ?_
  refine Go.seq ?_
  refine Go.region rfl ?_
  refine GoOps.q (v := .pointer none) rfl rfl (by decide) (q_assign rfl) ?_
  refine GoOps.nil ?_
  refine Go.seq ?_
  refine Go.region rfl ?_
  refine GoOps.q (v := .pointer p0) rfl rfl (by decide) (q_move rfl) ?_
  refine call_dst rfl (by decide) body37 (geom_Geom_Config_s _ _ _ h) rfl ?_
  rintro _ H1 ⟨y2, rfl, h⟩
  refine GoOps.q (v := .int .i64 y2.2.1) rfl rfl (by decide) (q_field fis26_1 scalar3 rfl rfl) ?_
  refine GoOps.q (v := .int .i64 y2.2.1) rfl rfl (by decide) (q_assign rfl) ?_
  refine GoOps.nil ?_
  refine Go.seq ?_
  refine Go.seq ?_
  refine Go.region rfl ?_
  refine GoOps.q (v := .pointer p0) rfl rfl (by decide) (q_move rfl) ?_
  refine GoOps.q (v := .bool (Option.isNone p0)) rfl rfl (by decide) (q_eqlPn Try.underlying28 rfl rfl) ?_
  refine GoOps.q (v := .bool (Option.isNone p0)) rfl rfl (by decide) (q_move rfl) ?_
  refine join_ops 10 (fun ρ (s4 : Bool) => ρ 0 = .pointer p0 ∧ ρ 1 = Sl.v p1 ∧ ρ 5 = .int .i64 y2.2.1 ∧ ρ 24 = .bool s4) h ?_ ?_ <;> clear h
  · intro s4 H6 ρ h hE
    obtain ⟨e7_0, e7_1, e7_5, e7_24⟩ := hE
    refine GoOps.nil ?_
    rcases bor s4 with hc8 | hc8
    · have h := h.1 hc8
      refine Go.condT (btT e7_24 hc8) ?_
      refine Go.seq ?_
      refine Go.region rfl ?_
      refine GoOps.q (v := .pointer none) rfl rfl (by decide) (q_assign rfl) ?_
      refine GoOps.nil ?_
      exact Go.ret ⟨.inl rfl, _, _, DOk.nil, (resOk1 Try.results10 rfl), ⟨_, rfl, h⟩⟩
    · have h := h.2 hc8
      refine Go.condF (btF e7_24 hc8) ?_
      refine Go.skip ?_
      refine Go.seq ?_
      refine Go.seq ?_
      refine Go.region rfl ?_
      refine GoOps.q (v := Sl.v p1) rfl rfl (by decide) (q_move e7_1) ?_
      refine GoOps.q (v := .int .i64 (p1.len : Int)) rfl rfl (by decide) (q_len Try.underlying50 rfl (ls1 rfl)) ?_
      refine GoOps.q (v := .int .i64 0) rfl rfl (by decide) (q_move rfl) ?_
      refine GoOps.nil ?_
      refine Go.block ?_
      refine loop_go (fun ρ (s9 : Int) => ρ 0 = .pointer p0 ∧ ρ 1 = Sl.v p1 ∧ ρ 5 = .int .i64 y2.2.1 ∧ ρ 25 = Sl.v p1 ∧ ρ 26 = .int .i64 (p1.len : Int) ∧ ρ 27 = .int .i64 s9) h ⟨e7_0, e7_1, e7_5, rfl, rfl, rfl⟩ ?_
      clear h
      intro ρ s9 H12 again10 hE h hagain10
      obtain ⟨e11_0, e11_1, e11_5, e11_25, e11_26, e11_27⟩ := hE
      refine Go.seq ?_
      refine Go.region rfl ?_
      refine GoOps.q (v := .bool (decide (s9 < (p1.len : Int)))) rfl rfl (by decide) (q_lss e11_27 e11_26) ?_
      refine GoOps.nil ?_
      refine Go.seq ?_
      rcases bor (decide (s9 < (p1.len : Int))) with hc13 | hc13
      · have h := h.1 hc13
        refine Go.condT (btT rfl hc13) ?_
        refine Go.skip ?_
        refine Go.seq ?_
        refine Go.block ?_
        refine Go.seq ?_
        refine Go.region rfl ?_
        obtain ⟨a14, ha15, h⟩ := h
        refine GoOps.q (v := .pointer (some a14)) rfl rfl (by decide) (q_idx slice50 ha15 e11_25 e11_27) ?_
        obtain ⟨x16, hx17, h⟩ := h
        refine GoOps.q (v := .agg ([.int .i64 x16.1, .int .i64 x16.2] : List Value).toArray) rfl rfl (by decide) (q_loadA aggr52 rfl hx17) ?_
        refine op_dst rfl rfl (by decide) (do_new zero52 rfl fun a18 H19 hb20 => ?_) 
        have h := h a18 H19 hb20
        obtain ⟨q22b, q22o, q22c, q22e, hq22a, hq22b, hq22l, hq22v, h⟩ := h
        refine op_none rfl rfl (do_store (vs := [.int .i64 x16.1, .int .i64 x16.2]) size52 (pta rfl hq22a) rfl rfl rfl hq22v hq22b hq22l ?_) 
        refine GoOps.nil ?_
        refine Go.seq ?_
        refine Go.region rfl ?_
        refine GoOps.q (v := .pointer (some (a18.add 0))) rfl rfl (by decide) (q_fieldAddr foff52_0 rfl) ?_
        obtain ⟨x23, hx24, h⟩ := h
        refine GoOps.q (v := .int .i64 x23) rfl rfl (by decide) (q_load scalar3 rfl hx24) ?_
        refine GoOps.q (v := .bool (decide (x23 < 0))) rfl rfl (by decide) (q_lss rfl rfl) ?_
        refine GoOps.q (v := .bool (decide (x23 < 0))) rfl rfl (by decide) (q_move rfl) ?_
        refine join_ops 4 (fun ρ (s26 : Bool) => ρ 0 = .pointer p0 ∧ ρ 1 = Sl.v p1 ∧ ρ 5 = .int .i64 y2.2.1 ∧ ρ 7 = .pointer (some a18) ∧ ρ 25 = Sl.v p1 ∧ ρ 26 = .int .i64 (p1.len : Int) ∧ ρ 27 = .int .i64 s9 ∧ ρ 38 = .bool s26) h ?_ ?_ <;> clear h
        · intro s26 H28 ρ h hE
          obtain ⟨e29_0, e29_1, e29_5, e29_7, e29_25, e29_26, e29_27, e29_38⟩ := hE
          refine GoOps.q (v := .bool s26) rfl rfl (by decide) (q_move e29_38) ?_
          refine join_ops 4 (fun ρ (s31 : Bool) => ρ 0 = .pointer p0 ∧ ρ 1 = Sl.v p1 ∧ ρ 5 = .int .i64 y2.2.1 ∧ ρ 7 = .pointer (some a18) ∧ ρ 25 = Sl.v p1 ∧ ρ 26 = .int .i64 (p1.len : Int) ∧ ρ 27 = .int .i64 s9 ∧ ρ 43 = .bool s31) h ?_ ?_ <;> clear h
          · intro s31 H33 ρ h hE
            obtain ⟨e34_0, e34_1, e34_5, e34_7, e34_25, e34_26, e34_27, e34_43⟩ := hE
            refine GoOps.q (v := .bool s31) rfl rfl (by decide) (q_move e34_43) ?_
            refine join_ops 4 (fun ρ (s36 : Bool) => ρ 0 = .pointer p0 ∧ ρ 1 = Sl.v p1 ∧ ρ 5 = .int .i64 y2.2.1 ∧ ρ 25 = Sl.v p1 ∧ ρ 26 = .int .i64 (p1.len : Int) ∧ ρ 27 = .int .i64 s9 ∧ ρ 48 = .bool s36) h ?_ ?_ <;> clear h
            · intro s36 H38 ρ h hE
              obtain ⟨e39_0, e39_1, e39_5, e39_25, e39_26, e39_27, e39_48⟩ := hE
              refine GoOps.nil ?_
              rcases bor s36 with hc40 | hc40
              · have h := h.1 hc40
                refine Go.condT (btT e39_48 hc40) ?_
                refine Go.seq ?_
                refine Go.region rfl ?_
                refine GoOps.q (v := .pointer none) rfl rfl (by decide) (q_assign rfl) ?_
                refine GoOps.nil ?_
                exact Go.ret ⟨.inl rfl, _, _, DOk.nil, (resOk1 Try.results10 rfl), ⟨_, rfl, h⟩⟩
              · have h := h.2 hc40
                refine Go.condF (btF e39_48 hc40) ?_
                refine Go.skip ?_
                refine Go.inBlock ?_
                refine Go.region rfl ?_
                refine GoOps.q (v := .int .i64 (IntKind.wrap .i64 (s9 + 1))) rfl rfl (by decide) (q_add e39_27 rfl) ?_
                refine GoOps.q (v := .int .i64 (IntKind.wrap .i64 (s9 + 1))) rfl rfl (by decide) (q_move rfl) ?_
                refine GoOps.nil ?_
                exact hagain10 _ _ _ h ⟨e39_0, e39_1, e39_5, e39_25, e39_26, rfl⟩
            · intro j37 hj37 h
              rcases bor s31 with hc35 | hc35
              · have h := h.1 hc35
                refine no_dst (want_no rfl rfl rfl hc35) rfl (by decide) ?_
                refine no_dst (want_no rfl rfl rfl hc35) rfl (by decide) ?_
                refine no_dst (want_no rfl rfl rfl hc35) rfl (by decide) ?_
                refine GoOps.q (v := .bool true) rfl rfl (by decide) (q_pickT (btT rfl hc35) rfl) ?_
                exact hj37 true _ _ h (by exact ⟨e34_0, e34_1, e34_5, e34_25, e34_26, e34_27, rfl⟩)
              · have h := h.2 hc35
                refine GoOps.q (v := .pointer (some (a18.add 1))) (want_yes rfl rfl rfl hc35) rfl (by decide) (q_fieldAddr foff52_1 e34_7) ?_
                obtain ⟨x41, hx42, h⟩ := h
                refine GoOps.q (v := .int .i64 x41) (want_yes rfl rfl rfl hc35) rfl (by decide) (q_load scalar3 rfl hx42) ?_
                refine GoOps.q (v := .bool (decide (2147483647 < x41))) (want_yes rfl rfl rfl hc35) rfl (by decide) (q_gtr rfl rfl) ?_
                refine GoOps.q (v := .bool (decide (2147483647 < x41))) rfl rfl (by decide) (q_pickF (btF rfl hc35) rfl) ?_
                exact hj37 (decide (2147483647 < x41)) _ _ h (by exact ⟨e34_0, e34_1, e34_5, e34_25, e34_26, e34_27, rfl⟩)
          · intro j32 hj32 h
            rcases bor s26 with hc30 | hc30
            · have h := h.1 hc30
              refine no_dst (want_no rfl rfl rfl hc30) rfl (by decide) ?_
              refine no_dst (want_no rfl rfl rfl hc30) rfl (by decide) ?_
              refine no_dst (want_no rfl rfl rfl hc30) rfl (by decide) ?_
              refine GoOps.q (v := .bool true) rfl rfl (by decide) (q_pickT (btT rfl hc30) rfl) ?_
              exact hj32 true _ _ h (by exact ⟨e29_0, e29_1, e29_5, e29_7, e29_25, e29_26, e29_27, rfl⟩)
            · have h := h.2 hc30
              refine GoOps.q (v := .pointer (some (a18.add 1))) (want_yes rfl rfl rfl hc30) rfl (by decide) (q_fieldAddr foff52_1 e29_7) ?_
              obtain ⟨x43, hx44, h⟩ := h
              refine GoOps.q (v := .int .i64 x43) (want_yes rfl rfl rfl hc30) rfl (by decide) (q_load scalar3 rfl hx44) ?_
              refine GoOps.q (v := .bool (decide (x43 < 0))) (want_yes rfl rfl rfl hc30) rfl (by decide) (q_lss rfl rfl) ?_
              refine GoOps.q (v := .bool (decide (x43 < 0))) rfl rfl (by decide) (q_pickF (btF rfl hc30) rfl) ?_
              exact hj32 (decide (x43 < 0)) _ _ h (by exact ⟨e29_0, e29_1, e29_5, e29_7, e29_25, e29_26, e29_27, rfl⟩)
        · intro j27 hj27 h
          rcases bor (decide (x23 < 0)) with hc25 | hc25
          · have h := h.1 hc25
            refine no_dst (want_no rfl rfl rfl hc25) rfl (by decide) ?_
            refine no_dst (want_no rfl rfl rfl hc25) rfl (by decide) ?_
            refine no_dst (want_no rfl rfl rfl hc25) rfl (by decide) ?_
            refine GoOps.q (v := .bool true) rfl rfl (by decide) (q_pickT (btT rfl hc25) rfl) ?_
            exact hj27 true _ _ h (by exact ⟨e11_0, e11_1, e11_5, rfl, e11_25, e11_26, e11_27, rfl⟩)
          · have h := h.2 hc25
            refine GoOps.q (v := .pointer (some (a18.add 0))) (want_yes rfl rfl rfl hc25) rfl (by decide) (q_fieldAddr foff52_0 rfl) ?_
            obtain ⟨x45, hx46, h⟩ := h
            refine GoOps.q (v := .int .i64 x45) (want_yes rfl rfl rfl hc25) rfl (by decide) (q_load scalar3 rfl hx46) ?_
            refine GoOps.q (v := .bool (decide (2 < x45))) (want_yes rfl rfl rfl hc25) rfl (by decide) (q_gtr rfl rfl) ?_
            refine GoOps.q (v := .bool (decide (2 < x45))) rfl rfl (by decide) (q_pickF (btF rfl hc25) rfl) ?_
            exact hj27 (decide (2 < x45)) _ _ h (by exact ⟨e11_0, e11_1, e11_5, rfl, e11_25, e11_26, e11_27, rfl⟩)
      · have h := h.2 hc13
        refine Go.condF (btF rfl hc13) ?_
        refine Go.exit rfl ?_
        refine Go.seq ?_
        refine join_go 1 (fun ρ (s47 : Option Addr) => ρ 1 = Sl.v p1 ∧ ρ 8 = .pointer s47) h ?_ ?_ <;> clear h
        · intro s47 H49 ρ h hE
          obtain ⟨e50_1, e50_8⟩ := hE
          refine Go.seq ?_
          refine Go.region rfl ?_
          refine GoOps.q (v := .pointer s47) rfl rfl (by decide) (q_move e50_8) ?_
          obtain ⟨a51, ha52, h⟩ := h
          refine GoOps.q (v := .pointer (some a51)) rfl rfl (by decide) (q_nilCheck (ptn rfl ha52)) ?_
          refine GoOps.q (v := .pointer (some (a51.add 1))) rfl rfl (by decide) (q_fieldAddr foff71_1 rfl) ?_
          obtain ⟨x53, hx54, h⟩ := h
          refine GoOps.q (v := Sl.v x53) rfl rfl (by decide) (q_load scalar50 rfl hx54) ?_
          refine GoOps.q (v := Sl.v p1) rfl rfl (by decide) (q_move e50_1) ?_
          refine op_dst rfl rfl (by decide) (do_copy slice50 rfl rfl h fun x55 H56 h => ?_) 
          refine GoOps.nil ?_
          refine Go.seq ?_
          refine Go.region rfl ?_
          refine GoOps.q (v := .pointer s47) rfl rfl (by decide) (q_move e50_8) ?_
          refine GoOps.q (v := .pointer s47) rfl rfl (by decide) (q_assign rfl) ?_
          refine GoOps.nil ?_
          exact Go.ret ⟨.inl rfl, _, _, DOk.nil, (resOk1 Try.results10 rfl), ⟨_, rfl, h⟩⟩
        · intro j48 hj48 h
          refine Go.draw mixed ?_
          refine plan_pure (i := 0) (d := 50) (S2 := 1) (v := .pointer p0) rfl (by decide +kernel) rfl (q_move e11_0) ?_
          refine plan_pure (i := 1) (d := 51) (S2 := 3) (v := .int .i64 y2.2.1) rfl (by decide +kernel) rfl (q_move e11_5) ?_
          refine plan_pure (i := 3) (d := 53) (S2 := 11) (v := .int .i64 y2.2.1) rfl (by decide +kernel) rfl (q_move e11_5) ?_
          obtain ⟨hm57, h⟩ := h
          obtain ⟨hm58, h⟩ := h
          refine plan_step (R := [2, 4]) (by decide +kernel) ⟨?_, ?_, trivial⟩
          · refine pstep_yes (S2 := 15) rfl (by decide +kernel) (by decide) rfl ?_
            refine do_mk (zs := [.int .i64 0, .int .i64 0]) slice50 bytes52 (by decide) zero52 rfl rfl (by decide) rfl rfl hm57 fun r59 H60 hb61 => ?_
            have h := h r59 H60 hb61
            refine ⟨_, rfl, ?_⟩
            refine plan_one (j := 4) (S2 := 31) (by decide +kernel) rfl (by decide) rfl ?_
            refine do_mk (zs := [.int .i64 0]) slice23 bytes3 (by decide) zero3 rfl rfl (by decide) rfl rfl hm58 fun r62 H63 hb64 => ?_
            have h := h r62 H63 hb64
            refine ⟨_, rfl, ?_⟩
            refine plan_pure (i := 5) (d := 55) (S2 := 63) (v := .agg ([.pointer p0, Sl.v r59, Sl.v r62] : List Value).toArray) rfl (by decide +kernel) rfl (q_build (ps := [(0, .pointer p0), (1, Sl.v r59), (2, Sl.v r62)]) (cs := [.pointer p0, Sl.v r59, Sl.v r62]) places71 zero71 rfl rfl rfl) ?_
            refine plan_one (j := 6) (S2 := 127) (by decide +kernel) rfl (by decide) rfl ?_
            refine do_newBox (cs := [.pointer p0, Sl.v r59, Sl.v r62]) rfl rfl fun a65 H66 hb67 => ?_
            have h := h a65 H66 hb67
            refine ⟨_, rfl, ?_⟩
            refine plan_pure (i := 7) (d := 8) (S2 := 255) (v := .pointer (some a65)) rfl (by decide +kernel) rfl (q_assign rfl) ?_
            refine plan_done (by decide +kernel) ?_
            exact hj48 _ _ _ h ⟨e11_1, rfl⟩
          · refine pstep_yes (S2 := 27) rfl (by decide +kernel) (by decide) rfl ?_
            refine do_mkT (zs := [.int .i64 0]) slice23 bytes3 (by decide) zero3 rfl rfl (by decide) rfl rfl hm58 fun b69 r68 hHb69 hTb69 hrb69 => ?_
            refine ⟨_, rfl, ?_⟩
            refine plan_one (j := 2) (S2 := 31) (by decide +kernel) rfl (by decide) rfl ?_
            refine do_mk (zs := [.int .i64 0, .int .i64 0]) slice50 bytes52 (by decide) zero52 rfl rfl (by decide) rfl rfl hm57 fun r70 H71 hb72 => ?_
            have h := h r70 H71 hb72
            refine ⟨_, rfl, ?_⟩
            refine plan_commit hTb69 fun hh74 => ?_
            have h := h r68 _ ⟨b69, hh74, hrb69, rfl⟩
            refine plan_pure (i := 5) (d := 55) (S2 := 63) (v := .agg ([.pointer p0, Sl.v r70, Sl.v r68] : List Value).toArray) rfl (by decide +kernel) rfl (q_build (ps := [(0, .pointer p0), (1, Sl.v r70), (2, Sl.v r68)]) (cs := [.pointer p0, Sl.v r70, Sl.v r68]) places71 zero71 rfl rfl rfl) ?_
            refine plan_one (j := 6) (S2 := 127) (by decide +kernel) rfl (by decide) rfl ?_
            refine do_newBox (cs := [.pointer p0, Sl.v r70, Sl.v r68]) rfl rfl fun a75 H76 hb77 => ?_
            have h := h a75 H76 hb77
            refine ⟨_, rfl, ?_⟩
            refine plan_pure (i := 7) (d := 8) (S2 := 255) (v := .pointer (some a75)) rfl (by decide +kernel) rfl (q_assign rfl) ?_
            refine plan_done (by decide +kernel) ?_
            exact hj48 _ _ _ h ⟨e11_1, rfl⟩
  · intro j5 hj5 h
    rcases bor (Option.isNone p0) with hc3 | hc3
    · have h := h.1 hc3
      refine no_dst (want_no rfl rfl rfl hc3) rfl (by decide) ?_
      refine no_dst (want_no rfl rfl rfl hc3) rfl (by decide) ?_
      refine no_dst (want_no rfl rfl rfl hc3) rfl (by decide) ?_
      refine no_dst (want_no rfl rfl rfl hc3) rfl (by decide) ?_
      refine no_dst (want_undef rfl rfl rfl) rfl (by decide) ?_
      refine no_dst (want_undef rfl rfl rfl) rfl (by decide) ?_
      refine no_dst (want_undef rfl rfl rfl) rfl (by decide) ?_
      refine no_dst (want_undef rfl rfl rfl) rfl (by decide) ?_
      refine no_dst (want_no rfl rfl rfl hc3) rfl (by decide) ?_
      refine GoOps.q (v := .bool true) rfl rfl (by decide) (q_pickT (btT rfl hc3) rfl) ?_
      exact hj5 true _ _ h (by exact ⟨rfl, rfl, rfl, rfl⟩)
    · have h := h.2 hc3
      refine GoOps.q (v := Sl.v p1) (want_yes rfl rfl rfl hc3) rfl (by decide) (q_move rfl) ?_
      refine GoOps.q (v := .int .i64 (p1.len : Int)) (want_yes rfl rfl rfl hc3) rfl (by decide) (q_len Try.underlying50 rfl (ls1 rfl)) ?_
      refine GoOps.q (v := .bool ((p1.len : Int) != 0)) (want_yes rfl rfl rfl hc3) rfl (by decide) (q_neq rfl rfl) ?_
      refine GoOps.q (v := .bool ((p1.len : Int) != 0)) (want_yes rfl rfl rfl hc3) rfl (by decide) (q_move rfl) ?_
      refine join_ops 5 (fun ρ (s79 : Bool) => ρ 0 = .pointer p0 ∧ ρ 1 = Sl.v p1 ∧ ρ 5 = .int .i64 y2.2.1 ∧ ρ 14 = .bool (Option.isNone p0) ∧ ρ 23 = .bool s79) h ?_ ?_ <;> clear h
      · intro s79 H81 ρ h hE
        obtain ⟨e82_0, e82_1, e82_5, e82_14, e82_23⟩ := hE
        refine GoOps.q (v := .bool s79) rfl rfl (by decide) (q_pickF (btF e82_14 hc3) e82_23) ?_
        exact hj5 s79 _ _ h (by exact ⟨e82_0, e82_1, e82_5, rfl⟩)
      · intro j80 hj80 h
        rcases bor ((p1.len : Int) != 0) with hc78 | hc78
        · have h := h.1 hc78
          refine GoOps.q (v := Sl.v p1) (want_yes rfl rfl rfl hc78) rfl (by decide) (q_move rfl) ?_
          refine GoOps.q (v := .int .i64 (p1.len : Int)) (want_yes rfl rfl rfl hc78) rfl (by decide) (q_len Try.underlying50 rfl (ls1 rfl)) ?_
          refine GoOps.q (v := .int .i64 y2.2.1) (want_yes rfl rfl rfl hc78) rfl (by decide) (q_move rfl) ?_
          refine GoOps.q (v := .bool ((p1.len : Int) != y2.2.1)) (want_yes rfl rfl rfl hc78) rfl (by decide) (q_neq rfl rfl) ?_
          refine GoOps.q (v := .bool ((p1.len : Int) != y2.2.1)) (want_yes rfl rfl rfl hc3) rfl (by decide) (q_pickT (btT rfl hc78) rfl) ?_
          exact hj80 ((p1.len : Int) != y2.2.1) _ _ h (by exact ⟨rfl, rfl, rfl, rfl, rfl⟩)
        · have h := h.2 hc78
          refine no_dst (want_no rfl rfl rfl hc78) rfl (by decide) ?_
          refine no_dst (want_no rfl rfl rfl hc78) rfl (by decide) ?_
          refine no_dst (want_no rfl rfl rfl hc78) rfl (by decide) ?_
          refine no_dst (want_no rfl rfl rfl hc78) rfl (by decide) ?_
          refine GoOps.q (v := .bool false) (want_yes rfl rfl rfl hc3) rfl (by decide) (q_pickF (btF rfl hc78) rfl) ?_
          exact hj80 false _ _ h (by exact ⟨rfl, rfl, rfl, rfl, rfl⟩)

/-- (*keelson.usage.Table).Free -/
def usage_Table_Free (p0 : Option Addr) (H : PH) (Q : Int → PH → Prop) : Prop :=
  mIf (Option.isNone p0)
  (Q 0 H)
  (mNil p0 fun a2 =>
  mLd Sl.v H (a2.add 1) fun x4 =>
  mLoop (fun (s6 : Int × Int) (H9 : PH) (again7 : (Int × Int) → PH → Prop) =>
  mIf (decide (s6.2 < (x4.len : Int)))
  (mJoin (fun (s11 : Int) (H13 : PH) =>
  again7 (s11, IntKind.wrap .i64 (s6.2 + 1)) H13)
  fun j12 =>
  mIdx x4 2 s6.2 fun a15 =>
  mLdR (fun (x : (Int × Int)) => [.int .i64 x.1, .int .i64 x.2]) H9 a15 2 fun x17 =>
  mNew H9 (row [.int .i64 0, .int .i64 0] 52) fun a19 H20 =>
  mSt H20 a19 ([.int .i64 x17.1, .int .i64 x17.2]) fun H22 =>
  mLd (.int .i64) H22 (a19.add 0) fun x24 =>
  mIf (x24 == 0)
  (j12 (IntKind.wrap .i64 (s6.1 + 1)) H22)
  (j12 s6.1 H22))
  (Q s6.1 H9))
  (0, 0) H)

set_option maxRecDepth 20000 in
set_option maxHeartbeats 1000000 in
theorem usage_Table_Free_s (p0 : Option Addr) (H : PH) (Q : Int → PH → Prop) (h : usage_Table_Free p0 H Q) :
    CallsH Try.prog 15 #[.pointer p0] H (fun v H' => ∃ (r0 : Int), v = .int .i64 r0 ∧ Q r0 H') := by
  unfold usage_Table_Free at h
  refine callsH_of_go Try.func15 rfl Try.ntmps15 (Nat.le_of_ble_eq_true rfl) ?_
  refine Go.seq ?_
  refine Go.region rfl ?_
  refine GoOps.q (v := .int .i64 0) rfl rfl (by decide) (q_assign rfl) ?_
  refine GoOps.nil ?_
  refine Go.seq ?_
  refine Go.seq ?_
  refine Go.region rfl ?_
  refine GoOps.q (v := .pointer p0) rfl rfl (by decide) (q_move rfl) ?_
  refine GoOps.q (v := .bool (Option.isNone p0)) rfl rfl (by decide) (q_eqlPn Try.underlying32 rfl rfl) ?_
  refine GoOps.nil ?_
  rcases bor (Option.isNone p0) with hc1 | hc1
  · have h := h.1 hc1
    refine Go.condT (btT rfl hc1) ?_
    refine Go.seq ?_
    refine Go.region rfl ?_
    refine GoOps.q (v := .int .i64 0) rfl rfl (by decide) (q_assign rfl) ?_
    refine GoOps.nil ?_
    exact Go.ret ⟨.inl rfl, _, _, DOk.nil, (resOk1 Try.results15 rfl), ⟨_, rfl, h⟩⟩
  · have h := h.2 hc1
    refine Go.condF (btF rfl hc1) ?_
    refine Go.skip ?_
    refine Go.seq ?_
    refine Go.seq ?_
    refine Go.region rfl ?_
    refine GoOps.q (v := .pointer p0) rfl rfl (by decide) (q_move rfl) ?_
    obtain ⟨a2, ha3, h⟩ := h
    refine GoOps.q (v := .pointer (some a2)) rfl rfl (by decide) (q_nilCheck (ptn rfl ha3)) ?_
    refine GoOps.q (v := .pointer (some (a2.add 1))) rfl rfl (by decide) (q_fieldAddr foff71_1 rfl) ?_
    obtain ⟨x4, hx5, h⟩ := h
    refine GoOps.q (v := Sl.v x4) rfl rfl (by decide) (q_load scalar50 rfl hx5) ?_
    refine GoOps.q (v := .int .i64 (x4.len : Int)) rfl rfl (by decide) (q_len Try.underlying50 rfl (ls1 rfl)) ?_
    refine GoOps.q (v := .int .i64 0) rfl rfl (by decide) (q_move rfl) ?_
    refine GoOps.nil ?_
    refine Go.block ?_
    refine loop_go (fun ρ (s6 : Int × Int) => ρ 2 = .int .i64 s6.1 ∧ ρ 10 = Sl.v x4 ∧ ρ 11 = .int .i64 (x4.len : Int) ∧ ρ 12 = .int .i64 s6.2) h ⟨rfl, rfl, rfl, rfl⟩ ?_
    clear h
    intro ρ s6 H9 again7 hE h hagain7
    obtain ⟨e8_2, e8_10, e8_11, e8_12⟩ := hE
    refine Go.seq ?_
    refine Go.region rfl ?_
    refine GoOps.q (v := .bool (decide (s6.2 < (x4.len : Int)))) rfl rfl (by decide) (q_lss e8_12 e8_11) ?_
    refine GoOps.nil ?_
    refine Go.seq ?_
    rcases bor (decide (s6.2 < (x4.len : Int))) with hc10 | hc10
    · have h := h.1 hc10
      refine Go.condT (btT rfl hc10) ?_
      refine Go.skip ?_
      refine Go.seq ?_
      refine join_go 1 (fun ρ (s11 : Int) => ρ 2 = .int .i64 s11 ∧ ρ 10 = Sl.v x4 ∧ ρ 11 = .int .i64 (x4.len : Int) ∧ ρ 12 = .int .i64 s6.2) h ?_ ?_ <;> clear h
      · intro s11 H13 ρ h hE
        obtain ⟨e14_2, e14_10, e14_11, e14_12⟩ := hE
        refine Go.region rfl ?_
        refine GoOps.q (v := .int .i64 (IntKind.wrap .i64 (s6.2 + 1))) rfl rfl (by decide) (q_add e14_12 rfl) ?_
        refine GoOps.q (v := .int .i64 (IntKind.wrap .i64 (s6.2 + 1))) rfl rfl (by decide) (q_move rfl) ?_
        refine GoOps.nil ?_
        exact hagain7 _ _ _ h ⟨e14_2, e14_10, e14_11, rfl⟩
      · intro j12 hj12 h
        refine Go.block ?_
        refine Go.seq ?_
        refine Go.region rfl ?_
        obtain ⟨a15, ha16, h⟩ := h
        refine GoOps.q (v := .pointer (some a15)) rfl rfl (by decide) (q_idx slice50 ha16 e8_10 e8_12) ?_
        obtain ⟨x17, hx18, h⟩ := h
        refine GoOps.q (v := .agg ([.int .i64 x17.1, .int .i64 x17.2] : List Value).toArray) rfl rfl (by decide) (q_loadA aggr52 rfl hx18) ?_
        refine op_dst rfl rfl (by decide) (do_new zero52 rfl fun a19 H20 hb21 => ?_) 
        have h := h a19 H20 hb21
        obtain ⟨q23b, q23o, q23c, q23e, hq23a, hq23b, hq23l, hq23v, h⟩ := h
        refine op_none rfl rfl (do_store (vs := [.int .i64 x17.1, .int .i64 x17.2]) size52 (pta rfl hq23a) rfl rfl rfl hq23v hq23b hq23l ?_) 
        refine GoOps.nil ?_
        refine Go.seq ?_
        refine Go.region rfl ?_
        refine GoOps.q (v := .pointer (some (a19.add 0))) rfl rfl (by decide) (q_fieldAddr foff52_0 rfl) ?_
        obtain ⟨x24, hx25, h⟩ := h
        refine GoOps.q (v := .int .i64 x24) rfl rfl (by decide) (q_load scalar3 rfl hx25) ?_
        refine GoOps.q (v := .bool (x24 == 0)) rfl rfl (by decide) (q_eql rfl rfl) ?_
        refine GoOps.nil ?_
        rcases bor (x24 == 0) with hc26 | hc26
        · have h := h.1 hc26
          refine Go.condT (btT rfl hc26) ?_
          refine Go.region rfl ?_
          refine GoOps.q (v := .int .i64 s6.1) rfl rfl (by decide) (q_move e8_2) ?_
          refine GoOps.q (v := .int .i64 (IntKind.wrap .i64 (s6.1 + 1))) rfl rfl (by decide) (q_add rfl rfl) ?_
          refine GoOps.q (v := .int .i64 (IntKind.wrap .i64 (s6.1 + 1))) rfl rfl (by decide) (q_assign rfl) ?_
          refine GoOps.nil ?_
          refine Go.inBlock ?_
          exact hj12 _ _ _ h ⟨rfl, e8_10, e8_11, e8_12⟩
        · have h := h.2 hc26
          refine Go.condF (btF rfl hc26) ?_
          refine Go.skip ?_
          refine Go.inBlock ?_
          exact hj12 _ _ _ h ⟨e8_2, e8_10, e8_11, e8_12⟩
    · have h := h.2 hc10
      refine Go.condF (btF rfl hc10) ?_
      refine Go.exit rfl ?_
      refine Go.seq ?_
      refine Go.region rfl ?_
      refine GoOps.q (v := .int .i64 s6.1) rfl rfl (by decide) (q_move e8_2) ?_
      refine GoOps.q (v := .int .i64 s6.1) rfl rfl (by decide) (q_assign rfl) ?_
      refine GoOps.nil ?_
      exact Go.ret ⟨.inl rfl, _, _, DOk.nil, (resOk1 Try.results15 rfl), ⟨_, rfl, h⟩⟩

/-- slices.IndexFunc[[]keelson.api.Use,keelson.api.Use] -/
def slices_IndexFunc_Slapi_Use_api_Use (p0 : Sl) (p1 : Value) (H : PH) (Q : Int → PH → Prop) : Prop :=
  mLoop (fun (s1 : Int) (H4 : PH) (again2 : Int → PH → Prop) =>
  mIf (decide (s1 < (p0.len : Int)))
  (mIdx p0 2 s1 fun a6 =>
  mLdR (fun (x : (Int × Int)) => [.int .i64 x.1, .int .i64 x.2]) H4 a6 2 fun x8 =>
  CallV Try.prog p1 [.agg ([.int .i64 x8.1, .int .i64 x8.2] : List Value).toArray] H4 fun r11 H10 =>
  ∃ (y12 : Bool), r11 = .bool y12 ∧
  mIf y12
  (Q s1 H10)
  (again2 (IntKind.wrap .i64 (s1 + 1)) H10))
  (Q (-1) H4))
  0 H

set_option maxRecDepth 20000 in
set_option maxHeartbeats 1000000 in
theorem slices_IndexFunc_Slapi_Use_api_Use_s (p0 : Sl) (p1 : Value) (H : PH) (Q : Int → PH → Prop) (h : slices_IndexFunc_Slapi_Use_api_Use p0 p1 H Q) :
    CallsH Try.prog 40 #[Sl.v p0, p1] H (fun v H' => ∃ (r0 : Int), v = .int .i64 r0 ∧ Q r0 H') := by
  unfold slices_IndexFunc_Slapi_Use_api_Use at h
  refine callsH_of_go Try.func40 rfl Try.ntmps40 (Nat.le_of_ble_eq_true rfl) ?_
  refine Go.seq ?_
  refine Go.region rfl ?_
  refine GoOps.q (v := .int .i64 0) rfl rfl (by decide) (q_assign rfl) ?_
  refine GoOps.nil ?_
  refine Go.seq ?_
  refine Go.seq ?_
  refine Go.region rfl ?_
  refine GoOps.q (v := Sl.v p0) rfl rfl (by decide) (q_move rfl) ?_
  refine GoOps.q (v := .int .i64 (p0.len : Int)) rfl rfl (by decide) (q_len Try.underlying50 rfl (ls1 rfl)) ?_
  refine GoOps.q (v := .int .i64 0) rfl rfl (by decide) (q_move rfl) ?_
  refine GoOps.nil ?_
  refine Go.block ?_
  refine loop_go (fun ρ (s1 : Int) => ρ 0 = Sl.v p0 ∧ ρ 1 = p1 ∧ ρ 7 = .int .i64 (p0.len : Int) ∧ ρ 8 = .int .i64 s1) h ⟨rfl, rfl, rfl, rfl⟩ ?_
  clear h
  intro ρ s1 H4 again2 hE h hagain2
  obtain ⟨e3_0, e3_1, e3_7, e3_8⟩ := hE
  refine Go.seq ?_
  refine Go.region rfl ?_
  refine GoOps.q (v := .bool (decide (s1 < (p0.len : Int)))) rfl rfl (by decide) (q_lss e3_8 e3_7) ?_
  refine GoOps.nil ?_
  refine Go.seq ?_
  rcases bor (decide (s1 < (p0.len : Int))) with hc5 | hc5
  · have h := h.1 hc5
    refine Go.condT (btT rfl hc5) ?_
    refine Go.skip ?_
    refine Go.seq ?_
    refine Go.block ?_
    refine Go.seq ?_
    refine Go.region rfl ?_
    refine GoOps.q (v := .int .i64 s1) rfl rfl (by decide) (q_move e3_8) ?_
    refine GoOps.q (v := .int .i64 s1) rfl rfl (by decide) (q_assign rfl) ?_
    refine GoOps.nil ?_
    refine Go.seq ?_
    refine Go.region rfl ?_
    refine GoOps.q (v := p1) rfl rfl (by decide) (q_move e3_1) ?_
    refine GoOps.q (v := Sl.v p0) rfl rfl (by decide) (q_move e3_0) ?_
    refine GoOps.q (v := .int .i64 s1) rfl rfl (by decide) (q_move rfl) ?_
    obtain ⟨a6, ha7, h⟩ := h
    refine GoOps.q (v := .pointer (some a6)) rfl rfl (by decide) (q_idx slice50 ha7 rfl rfl) ?_
    obtain ⟨x8, hx9, h⟩ := h
    refine GoOps.q (v := .agg ([.int .i64 x8.1, .int .i64 x8.2] : List Value).toArray) rfl rfl (by decide) (q_loadA aggr52 rfl hx9) ?_
    refine op_dst rfl rfl (by decide) (do_callC rfl rfl h fun r11 H10 h => ?_) 
    obtain ⟨y12, rfl, h⟩ := h
    refine GoOps.nil ?_
    rcases bor y12 with hc13 | hc13
    · have h := h.1 hc13
      refine Go.condT (btT rfl hc13) ?_
      refine Go.seq ?_
      refine Go.region rfl ?_
      refine GoOps.q (v := .int .i64 s1) rfl rfl (by decide) (q_move rfl) ?_
      refine GoOps.q (v := .int .i64 s1) rfl rfl (by decide) (q_assign rfl) ?_
      refine GoOps.nil ?_
      exact Go.ret ⟨.inl rfl, _, _, DOk.nil, (resOk1 Try.results40 rfl), ⟨_, rfl, h⟩⟩
    · have h := h.2 hc13
      refine Go.condF (btF rfl hc13) ?_
      refine Go.skip ?_
      refine Go.inBlock ?_
      refine Go.region rfl ?_
      refine GoOps.q (v := .int .i64 (IntKind.wrap .i64 (s1 + 1))) rfl rfl (by decide) (q_add e3_8 rfl) ?_
      refine GoOps.q (v := .int .i64 (IntKind.wrap .i64 (s1 + 1))) rfl rfl (by decide) (q_move rfl) ?_
      refine GoOps.nil ?_
      exact hagain2 _ _ _ h ⟨e3_0, e3_1, e3_7, rfl⟩
  · have h := h.2 hc5
    refine Go.condF (btF rfl hc5) ?_
    refine Go.exit rfl ?_
    refine Go.seq ?_
    refine Go.region rfl ?_
    refine GoOps.q (v := .int .i64 (-1)) rfl rfl (by decide) (q_assign rfl) ?_
    refine GoOps.nil ?_
    exact Go.ret ⟨.inl rfl, _, _, DOk.nil, (resOk1 Try.results40 rfl), ⟨_, rfl, h⟩⟩

/-- (*keelson.usage.Table).has -/
def usage_Table_has (p0 : Option Addr) (p1 : Int) (H : PH) (Q : Bool → PH → Prop) : Prop :=
  mJoin (fun (s2 : Bool) (H4 : PH) =>
  mJoin (fun (s7 : Bool) (H9 : PH) =>
  Q s7 H9)
  fun j8 =>
  mIf s2
  (mNil p0 fun a11 =>
  mLd Sl.v H4 (a11.add 1) fun x13 =>
  j8 (decide (p1 < (x13.len : Int))) H4)
  (j8 false H4))
  fun j3 =>
  mIf (!(Option.isNone p0))
  (j3 (decide (0 ≤ p1)) H)
  (j3 false H)

set_option maxRecDepth 20000 in
set_option maxHeartbeats 1000000 in
theorem usage_Table_has_s (p0 : Option Addr) (p1 : Int) (H : PH) (Q : Bool → PH → Prop) (h : usage_Table_has p0 p1 H Q) :
    CallsH Try.prog 39 #[.pointer p0, .int .i64 p1] H (fun v H' => ∃ (r0 : Bool), v = .bool r0 ∧ Q r0 H') := by
  unfold usage_Table_has at h
  refine callsH_of_go Try.func39 rfl Try.ntmps39 (Nat.le_of_ble_eq_true rfl) ?_
  refine Go.seq ?_
  refine Go.region rfl ?_
  refine GoOps.q (v := .bool false) rfl rfl (by decide) (q_assign rfl) ?_
  refine GoOps.nil ?_
  refine Go.seq ?_
  refine Go.region rfl ?_
  refine GoOps.q (v := .pointer p0) rfl rfl (by decide) (q_move rfl) ?_
  refine GoOps.q (v := .bool (!(Option.isNone p0))) rfl rfl (by decide) (q_neqPn Try.underlying32 rfl rfl) ?_
  refine GoOps.q (v := .bool (!(Option.isNone p0))) rfl rfl (by decide) (q_move rfl) ?_
  refine join_ops 3 (fun ρ (s2 : Bool) => ρ 0 = .pointer p0 ∧ ρ 1 = .int .i64 p1 ∧ ρ 10 = .bool s2) h ?_ ?_ <;> clear h
  · intro s2 H4 ρ h hE
    obtain ⟨e5_0, e5_1, e5_10⟩ := hE
    refine GoOps.q (v := .bool s2) rfl rfl (by decide) (q_move e5_10) ?_
    refine join_ops 8 (fun ρ (s7 : Bool) => ρ 19 = .bool s7) h ?_ ?_ <;> clear h
    · intro s7 H9 ρ h hE
      have e10_19 := hE
      refine GoOps.q (v := .bool s7) rfl rfl (by decide) (q_assign e10_19) ?_
      refine GoOps.nil ?_
      exact Go.ret ⟨.inl rfl, _, _, DOk.nil, (resOk1 Try.results39 rfl), ⟨_, rfl, h⟩⟩
    · intro j8 hj8 h
      rcases bor s2 with hc6 | hc6
      · have h := h.1 hc6
        refine GoOps.q (v := .int .i64 p1) (want_yes rfl rfl rfl hc6) rfl (by decide) (q_move e5_1) ?_
        refine GoOps.q (v := .pointer p0) (want_yes rfl rfl rfl hc6) rfl (by decide) (q_move e5_0) ?_
        obtain ⟨a11, ha12, h⟩ := h
        refine GoOps.q (v := .pointer (some a11)) (want_yes rfl rfl rfl hc6) rfl (by decide) (q_nilCheck (ptn rfl ha12)) ?_
        refine GoOps.q (v := .pointer (some (a11.add 1))) (want_yes rfl rfl rfl hc6) rfl (by decide) (q_fieldAddr foff71_1 rfl) ?_
        obtain ⟨x13, hx14, h⟩ := h
        refine GoOps.q (v := Sl.v x13) (want_yes rfl rfl rfl hc6) rfl (by decide) (q_load scalar50 rfl hx14) ?_
        refine GoOps.q (v := .int .i64 (x13.len : Int)) (want_yes rfl rfl rfl hc6) rfl (by decide) (q_len Try.underlying50 rfl (ls1 rfl)) ?_
        refine GoOps.q (v := .bool (decide (p1 < (x13.len : Int)))) (want_yes rfl rfl rfl hc6) rfl (by decide) (q_lss rfl rfl) ?_
        refine GoOps.q (v := .bool (decide (p1 < (x13.len : Int)))) rfl rfl (by decide) (q_pickT (btT rfl hc6) rfl) ?_
        exact hj8 (decide (p1 < (x13.len : Int))) _ _ h (by exact rfl)
      · have h := h.2 hc6
        refine no_dst (want_no rfl rfl rfl hc6) rfl (by decide) ?_
        refine no_dst (want_no rfl rfl rfl hc6) rfl (by decide) ?_
        refine no_dst (want_no rfl rfl rfl hc6) rfl (by decide) ?_
        refine no_dst (want_no rfl rfl rfl hc6) rfl (by decide) ?_
        refine no_dst (want_no rfl rfl rfl hc6) rfl (by decide) ?_
        refine no_dst (want_no rfl rfl rfl hc6) rfl (by decide) ?_
        refine no_dst (want_no rfl rfl rfl hc6) rfl (by decide) ?_
        refine GoOps.q (v := .bool false) rfl rfl (by decide) (q_pickF (btF rfl hc6) rfl) ?_
        exact hj8 false _ _ h (by exact rfl)
  · intro j3 hj3 h
    rcases bor (!(Option.isNone p0)) with hc1 | hc1
    · have h := h.1 hc1
      refine GoOps.q (v := .int .i64 p1) (want_yes rfl rfl rfl hc1) rfl (by decide) (q_move rfl) ?_
      refine GoOps.q (v := .bool (decide (0 ≤ p1))) (want_yes rfl rfl rfl hc1) rfl (by decide) (q_geq rfl rfl) ?_
      refine GoOps.q (v := .bool (decide (0 ≤ p1))) rfl rfl (by decide) (q_pickT (btT rfl hc1) rfl) ?_
      exact hj3 (decide (0 ≤ p1)) _ _ h (by exact ⟨rfl, rfl, rfl⟩)
    · have h := h.2 hc1
      refine no_dst (want_no rfl rfl rfl hc1) rfl (by decide) ?_
      refine no_dst (want_no rfl rfl rfl hc1) rfl (by decide) ?_
      refine GoOps.q (v := .bool false) rfl rfl (by decide) (q_pickF (btF rfl hc1) rfl) ?_
      exact hj3 false _ _ h (by exact ⟨rfl, rfl, rfl⟩)

/-- (*keelson.usage.Table).Grab -/
def usage_Table_Grab (p0 : Option Addr) (p1 : Int) (H : PH) (Q : Bool → PH → Prop) : Prop :=
  usage_Table_has p0 p1 H fun y2 H1 =>
  mJoin (fun (s4 : Bool) (H6 : PH) =>
  mIf s4
  (Q false H6)
  (mNil p0 fun a9 =>
  mLd Sl.v H6 (a9.add 1) fun x11 =>
  mNil p0 fun a13 =>
  mLd Sl.v H6 (a13.add 2) fun x15 =>
  mIdx x11 2 p1 fun a17 =>
  mSt H6 (a17.add 0) ([.int .i64 1]) fun H19 =>
  mIdx x15 1 p1 fun a21 =>
  mSt H19 a21 ([.int .i64 0]) fun H23 =>
  Q true H23))
  fun j5 =>
  mIf (!y2)
  (j5 true H1)
  (mNil p0 fun a25 =>
  mLd Sl.v H1 (a25.add 1) fun x27 =>
  mIdx x27 2 p1 fun a29 =>
  mLd (.int .i64) H1 (a29.add 0) fun x31 =>
  j5 (x31 != 0) H1)

set_option maxRecDepth 20000 in
set_option maxHeartbeats 1000000 in
theorem usage_Table_Grab_s (p0 : Option Addr) (p1 : Int) (H : PH) (Q : Bool → PH → Prop) (h : usage_Table_Grab p0 p1 H Q) :
    CallsH Try.prog 12 #[.pointer p0, .int .i64 p1] H (fun v H' => ∃ (r0 : Bool), v = .bool r0 ∧ Q r0 H') := by
  unfold usage_Table_Grab at h
  refine callsH_of_go Try.func12 rfl Try.ntmps12 (Nat.le_of_ble_eq_true rfl) ?_
  refine Go.seq ?_
  refine Go.region rfl ?_
  refine GoOps.q (v := .bool false) rfl rfl (by decide) (q_assign rfl) ?_
  refine GoOps.nil ?_
  refine Go.seq ?_
  refine Go.seq ?_
  refine Go.region rfl ?_
  refine GoOps.q (v := .pointer p0) rfl rfl (by decide) (q_move rfl) ?_
  refine GoOps.q (v := .int .i64 p1) rfl rfl (by decide) (q_move rfl) ?_
  refine call_dst rfl (by decide) body39 (usage_Table_has_s _ _ _ _ h) rfl ?_
  rintro _ H1 ⟨y2, rfl, h⟩
  refine GoOps.q (v := .bool (!y2)) rfl rfl (by decide) (q_not rfl) ?_
  refine GoOps.q (v := .bool (!y2)) rfl rfl (by decide) (q_move rfl) ?_
  refine join_ops 10 (fun ρ (s4 : Bool) => ρ 0 = .pointer p0 ∧ ρ 1 = .int .i64 p1 ∧ ρ 19 = .bool s4) h ?_ ?_ <;> clear h
  · intro s4 H6 ρ h hE
    obtain ⟨e7_0, e7_1, e7_19⟩ := hE
    refine GoOps.nil ?_
    rcases bor s4 with hc8 | hc8
    · have h := h.1 hc8
      refine Go.condT (btT e7_19 hc8) ?_
      refine Go.seq ?_
      refine Go.region rfl ?_
      refine GoOps.q (v := .bool false) rfl rfl (by decide) (q_assign rfl) ?_
      refine GoOps.nil ?_
      exact Go.ret ⟨.inl rfl, _, _, DOk.nil, (resOk1 Try.results12 rfl), ⟨_, rfl, h⟩⟩
    · have h := h.2 hc8
      refine Go.condF (btF e7_19 hc8) ?_
      refine Go.skip ?_
      refine Go.seq ?_
      refine Go.draw mixed ?_
      refine plan_pure (i := 0) (d := 20) (S2 := 1) (v := .pointer p0) rfl (by decide +kernel) rfl (q_move e7_0) ?_
      obtain ⟨a9, ha10, h⟩ := h
      refine plan_pure (i := 1) (d := 21) (S2 := 3) (v := .pointer (some a9)) rfl (by decide +kernel) rfl (q_nilCheck (ptn rfl ha10)) ?_
      refine plan_pure (i := 2) (d := 22) (S2 := 7) (v := .pointer (some (a9.add 1))) rfl (by decide +kernel) rfl (q_fieldAddr foff71_1 rfl) ?_
      obtain ⟨x11, hx12, h⟩ := h
      refine plan_load (i := 3) (d := 23) (S2 := 15) (v := Sl.v x11) rfl (by decide +kernel) rfl (q_load scalar50 rfl hx12) ?_
      refine plan_pure (i := 4) (d := 24) (S2 := 31) (v := .int .i64 p1) rfl (by decide +kernel) rfl (q_move e7_1) ?_
      refine plan_pure (i := 5) (d := 25) (S2 := 63) (v := .pointer p0) rfl (by decide +kernel) rfl (q_move e7_0) ?_
      obtain ⟨a13, ha14, h⟩ := h
      refine plan_pure (i := 6) (d := 26) (S2 := 127) (v := .pointer (some a13)) rfl (by decide +kernel) rfl (q_nilCheck (ptn rfl ha14)) ?_
      refine plan_pure (i := 7) (d := 27) (S2 := 255) (v := .pointer (some (a13.add 2))) rfl (by decide +kernel) rfl (q_fieldAddr foff71_2 rfl) ?_
      obtain ⟨x15, hx16, h⟩ := h
      refine plan_load (i := 8) (d := 28) (S2 := 511) (v := Sl.v x15) rfl (by decide +kernel) rfl (q_load scalar23 rfl hx16) ?_
      refine plan_pure (i := 9) (d := 29) (S2 := 1023) (v := .int .i64 p1) rfl (by decide +kernel) rfl (q_move e7_1) ?_
      obtain ⟨a17, ha18, h⟩ := h
      refine plan_pure (i := 10) (d := 30) (S2 := 2047) (v := .pointer (some a17)) rfl (by decide +kernel) rfl (q_idx slice50 ha18 rfl rfl) ?_
      refine plan_pure (i := 11) (d := 31) (S2 := 4095) (v := .pointer (some (a17.add 0))) rfl (by decide +kernel) rfl (q_fieldAddr foff52_0 rfl) ?_
      refine plan_one (j := 12) (S2 := 8191) (by decide +kernel) rfl (by decide) rfl ?_
      obtain ⟨q20b, q20o, q20c, q20e, hq20a, hq20b, hq20l, hq20v, h⟩ := h
      refine do_store (vs := [.int .i64 1]) size3 (pta rfl hq20a) rfl rfl rfl hq20v hq20b hq20l ?_
      refine ⟨_, (.inl ⟨⟨[12], by decide +kernel, rfl⟩, .inl ⟨⟨[12], by decide +kernel, rfl⟩, rfl⟩⟩), ?_⟩
      obtain ⟨a21, ha22, h⟩ := h
      refine plan_pure (i := 13) (d := 32) (S2 := 16383) (v := .pointer (some a21)) rfl (by decide +kernel) rfl (q_idx slice23 ha22 rfl rfl) ?_
      refine plan_one (j := 14) (S2 := 32767) (by decide +kernel) rfl (by decide) rfl ?_
      obtain ⟨q24b, q24o, q24c, q24e, hq24a, hq24b, hq24l, hq24v, h⟩ := h
      refine do_store (vs := [.int .i64 0]) size3 (pta rfl hq24a) rfl rfl rfl hq24v hq24b hq24l ?_
      refine ⟨_, rfl, ?_⟩
      refine plan_done (by decide +kernel) ?_
      refine Go.seq ?_
      refine Go.region rfl ?_
      refine GoOps.q (v := .bool true) rfl rfl (by decide) (q_assign rfl) ?_
      refine GoOps.nil ?_
      exact Go.ret ⟨.inl rfl, _, _, DOk.nil, (resOk1 Try.results12 rfl), ⟨_, rfl, h⟩⟩
  · intro j5 hj5 h
    rcases bor (!y2) with hc3 | hc3
    · have h := h.1 hc3
      refine no_dst (want_no rfl rfl rfl hc3) rfl (by decide) ?_
      refine no_dst (want_no rfl rfl rfl hc3) rfl (by decide) ?_
      refine no_dst (want_no rfl rfl rfl hc3) rfl (by decide) ?_
      refine no_dst (want_no rfl rfl rfl hc3) rfl (by decide) ?_
      refine no_dst (want_no rfl rfl rfl hc3) rfl (by decide) ?_
      refine no_dst (want_no rfl rfl rfl hc3) rfl (by decide) ?_
      refine no_dst (want_no rfl rfl rfl hc3) rfl (by decide) ?_
      refine no_dst (want_no rfl rfl rfl hc3) rfl (by decide) ?_
      refine no_dst (want_no rfl rfl rfl hc3) rfl (by decide) ?_
      refine GoOps.q (v := .bool true) rfl rfl (by decide) (q_pickT (btT rfl hc3) rfl) ?_
      exact hj5 true _ _ h (by exact ⟨rfl, rfl, rfl⟩)
    · have h := h.2 hc3
      refine GoOps.q (v := .pointer p0) (want_yes rfl rfl rfl hc3) rfl (by decide) (q_move rfl) ?_
      obtain ⟨a25, ha26, h⟩ := h
      refine GoOps.q (v := .pointer (some a25)) (want_yes rfl rfl rfl hc3) rfl (by decide) (q_nilCheck (ptn rfl ha26)) ?_
      refine GoOps.q (v := .pointer (some (a25.add 1))) (want_yes rfl rfl rfl hc3) rfl (by decide) (q_fieldAddr foff71_1 rfl) ?_
      obtain ⟨x27, hx28, h⟩ := h
      refine GoOps.q (v := Sl.v x27) (want_yes rfl rfl rfl hc3) rfl (by decide) (q_load scalar50 rfl hx28) ?_
      refine GoOps.q (v := .int .i64 p1) (want_yes rfl rfl rfl hc3) rfl (by decide) (q_move rfl) ?_
      obtain ⟨a29, ha30, h⟩ := h
      refine GoOps.q (v := .pointer (some a29)) (want_yes rfl rfl rfl hc3) rfl (by decide) (q_idx slice50 ha30 rfl rfl) ?_
      refine GoOps.q (v := .pointer (some (a29.add 0))) (want_yes rfl rfl rfl hc3) rfl (by decide) (q_fieldAddr foff52_0 rfl) ?_
      obtain ⟨x31, hx32, h⟩ := h
      refine GoOps.q (v := .int .i64 x31) (want_yes rfl rfl rfl hc3) rfl (by decide) (q_load scalar3 rfl hx32) ?_
      refine GoOps.q (v := .bool (x31 != 0)) (want_yes rfl rfl rfl hc3) rfl (by decide) (q_neq rfl rfl) ?_
      refine GoOps.q (v := .bool (x31 != 0)) rfl rfl (by decide) (q_pickF (btF rfl hc3) rfl) ?_
      exact hj5 (x31 != 0) _ _ h (by exact ⟨rfl, rfl, rfl⟩)

/-- (*keelson.usage.Table).Take -/
def usage_Table_Take (p0 : Option Addr) (p1 : Bool) (H : PH) (Q : Int → Bool → PH → Prop) : Prop :=
  mJoin (fun (s2 : Bool) (H4 : PH) =>
  mIf s2
  (Q 0 false H4)
  (mNil p0 fun a7 =>
  mLd Sl.v H4 (a7.add 1) fun x9 =>
  slices_IndexFunc_Slapi_Use_api_Use x9 (.func (.func 41) #[] #[]) H4 fun y12 H11 =>
  usage_Table_Grab p0 y12 H11 fun y14 H13 =>
  mIf (!y14)
  (Q 0 false H13)
  (Q y12 true H13)))
  fun j3 =>
  mIf (Option.isNone p0)
  (j3 true H)
  (mJoin (fun (s17 : Bool) (H19 : PH) =>
  j3 s17 H19)
  fun j18 =>
  mIf (!p1)
  (usage_Table_Free p0 H fun y22 H21 =>
  j18 (decide (y22 ≤ 2)) H21)
  (j18 false H))

set_option maxRecDepth 20000 in
set_option maxHeartbeats 1000000 in
theorem usage_Table_Take_s (p0 : Option Addr) (p1 : Bool) (H : PH) (Q : Int → Bool → PH → Prop) (h : usage_Table_Take p0 p1 H Q) :
    CallsH Try.prog 13 #[.pointer p0, .bool p1] H (fun v H' => ∃ (r0 : Int) (r1 : Bool), v = .tuple #[.int .i64 r0, .bool r1] ∧ Q r0 r1 H') := by
  unfold usage_Table_Take at h
  refine callsH_of_go Try.func13 rfl Try.ntmps13 (Nat.le_of_ble_eq_true rfl) ?_
  refine Go.seq ?_
  refine Go.region rfl ?_
  refine GoOps.q (v := .int .i64 0) rfl rfl (by decide) (q_assign rfl) ?_
  refine GoOps.q (v := .bool false) rfl rfl (by decide) (q_assign rfl) ?_
  refine GoOps.nil ?_
  refine Go.seq ?_
  refine Go.seq ?_
  refine Go.region rfl ?_
  refine GoOps.q (v := .pointer p0) rfl rfl (by decide) (q_move rfl) ?_
  refine GoOps.q (v := .bool (Option.isNone p0)) rfl rfl (by decide) (q_eqlPn Try.underlying32 rfl rfl) ?_
  refine GoOps.q (v := .bool (Option.isNone p0)) rfl rfl (by decide) (q_move rfl) ?_
  refine join_ops 8 (fun ρ (s2 : Bool) => ρ 0 = .pointer p0 ∧ ρ 17 = .bool s2) h ?_ ?_ <;> clear h
  · intro s2 H4 ρ h hE
    obtain ⟨e5_0, e5_17⟩ := hE
    refine GoOps.nil ?_
    rcases bor s2 with hc6 | hc6
    · have h := h.1 hc6
      refine Go.condT (btT e5_17 hc6) ?_
      refine Go.seq ?_
      refine Go.region rfl ?_
      refine GoOps.q (v := .int .i64 0) rfl rfl (by decide) (q_assign rfl) ?_
      refine GoOps.q (v := .bool false) rfl rfl (by decide) (q_assign rfl) ?_
      refine GoOps.nil ?_
      exact Go.ret ⟨.inl rfl, _, _, DOk.nil, (resOk2 Try.results13 rfl rfl), ⟨_, _, rfl, h⟩⟩
    · have h := h.2 hc6
      refine Go.condF (btF e5_17 hc6) ?_
      refine Go.skip ?_
      refine Go.seq ?_
      refine Go.region rfl ?_
      refine GoOps.q (v := .pointer p0) rfl rfl (by decide) (q_move e5_0) ?_
      obtain ⟨a7, ha8, h⟩ := h
      refine GoOps.q (v := .pointer (some a7)) rfl rfl (by decide) (q_nilCheck (ptn rfl ha8)) ?_
      refine GoOps.q (v := .pointer (some (a7.add 1))) rfl rfl (by decide) (q_fieldAddr foff71_1 rfl) ?_
      obtain ⟨x9, hx10, h⟩ := h
      refine GoOps.q (v := Sl.v x9) rfl rfl (by decide) (q_load scalar50 rfl hx10) ?_
      refine call_dst rfl (by decide) body40 (slices_IndexFunc_Slapi_Use_api_Use_s _ _ _ _ h) rfl ?_
      rintro _ H11 ⟨y12, rfl, h⟩
      refine GoOps.q (v := .int .i64 y12) rfl rfl (by decide) (q_assign rfl) ?_
      refine GoOps.nil ?_
      refine Go.seq ?_
      refine Go.seq ?_
      refine Go.region rfl ?_
      refine GoOps.q (v := .pointer p0) rfl rfl (by decide) (q_move e5_0) ?_
      refine GoOps.q (v := .int .i64 y12) rfl rfl (by decide) (q_move rfl) ?_
      refine call_dst rfl (by decide) body12 (usage_Table_Grab_s _ _ _ _ h) rfl ?_
      rintro _ H13 ⟨y14, rfl, h⟩
      refine GoOps.q (v := .bool (!y14)) rfl rfl (by decide) (q_not rfl) ?_
      refine GoOps.nil ?_
      rcases bor (!y14) with hc15 | hc15
      · have h := h.1 hc15
        refine Go.condT (btT rfl hc15) ?_
        refine Go.seq ?_
        refine Go.region rfl ?_
        refine GoOps.q (v := .int .i64 0) rfl rfl (by decide) (q_assign rfl) ?_
        refine GoOps.q (v := .bool false) rfl rfl (by decide) (q_assign rfl) ?_
        refine GoOps.nil ?_
        exact Go.ret ⟨.inl rfl, _, _, DOk.nil, (resOk2 Try.results13 rfl rfl), ⟨_, _, rfl, h⟩⟩
      · have h := h.2 hc15
        refine Go.condF (btF rfl hc15) ?_
        refine Go.skip ?_
        refine Go.seq ?_
        refine Go.region rfl ?_
        refine GoOps.q (v := .int .i64 y12) rfl rfl (by decide) (q_move rfl) ?_
        refine GoOps.q (v := .int .i64 y12) rfl rfl (by decide) (q_assign rfl) ?_
        refine GoOps.q (v := .bool true) rfl rfl (by decide) (q_assign rfl) ?_
        refine GoOps.nil ?_
        exact Go.ret ⟨.inl rfl, _, _, DOk.nil, (resOk2 Try.results13 rfl rfl), ⟨_, _, rfl, h⟩⟩
  · intro j3 hj3 h
    rcases bor (Option.isNone p0) with hc1 | hc1
    · have h := h.1 hc1
      refine no_dst (want_no rfl rfl rfl hc1) rfl (by decide) ?_
      refine no_dst (want_no rfl rfl rfl hc1) rfl (by decide) ?_
      refine no_dst (want_no rfl rfl rfl hc1) rfl (by decide) ?_
      refine no_dst (want_undef rfl rfl rfl) rfl (by decide) ?_
      refine no_dst (want_undef rfl rfl rfl) rfl (by decide) ?_
      refine no_dst (want_undef rfl rfl rfl) rfl (by decide) ?_
      refine no_dst (want_no rfl rfl rfl hc1) rfl (by decide) ?_
      refine GoOps.q (v := .bool true) rfl rfl (by decide) (q_pickT (btT rfl hc1) rfl) ?_
      exact hj3 true _ _ h (by exact ⟨rfl, rfl⟩)
    · have h := h.2 hc1
      refine GoOps.q (v := .bool p1) (want_yes rfl rfl rfl hc1) rfl (by decide) (q_move rfl) ?_
      refine GoOps.q (v := .bool (!p1)) (want_yes rfl rfl rfl hc1) rfl (by decide) (q_not rfl) ?_
      refine GoOps.q (v := .bool (!p1)) (want_yes rfl rfl rfl hc1) rfl (by decide) (q_move rfl) ?_
      refine join_ops 4 (fun ρ (s17 : Bool) => ρ 0 = .pointer p0 ∧ ρ 9 = .bool (Option.isNone p0) ∧ ρ 16 = .bool s17) h ?_ ?_ <;> clear h
      · intro s17 H19 ρ h hE
        obtain ⟨e20_0, e20_9, e20_16⟩ := hE
        refine GoOps.q (v := .bool s17) rfl rfl (by decide) (q_pickF (btF e20_9 hc1) e20_16) ?_
        exact hj3 s17 _ _ h (by exact ⟨e20_0, rfl⟩)
      · intro j18 hj18 h
        rcases bor (!p1) with hc16 | hc16
        · have h := h.1 hc16
          refine GoOps.q (v := .pointer p0) (want_yes rfl rfl rfl hc16) rfl (by decide) (q_move rfl) ?_
          refine call_dst (want_yes rfl rfl rfl hc16) (by decide) body15 (usage_Table_Free_s _ _ _ h) rfl ?_
          rintro _ H21 ⟨y22, rfl, h⟩
          refine GoOps.q (v := .bool (decide (y22 ≤ 2))) (want_yes rfl rfl rfl hc16) rfl (by decide) (q_leq rfl rfl) ?_
          refine GoOps.q (v := .bool (decide (y22 ≤ 2))) (want_yes rfl rfl rfl hc1) rfl (by decide) (q_pickT (btT rfl hc16) rfl) ?_
          exact hj18 (decide (y22 ≤ 2)) _ _ h (by exact ⟨rfl, rfl, rfl⟩)
        · have h := h.2 hc16
          refine no_dst (want_no rfl rfl rfl hc16) rfl (by decide) ?_
          refine no_dst (want_no rfl rfl rfl hc16) rfl (by decide) ?_
          refine no_dst (want_no rfl rfl rfl hc16) rfl (by decide) ?_
          refine GoOps.q (v := .bool false) (want_yes rfl rfl rfl hc1) rfl (by decide) (q_pickF (btF rfl hc16) rfl) ?_
          exact hj18 false _ _ h (by exact ⟨rfl, rfl, rfl⟩)

/-- (*keelson.usage.Table).Seal -/
def usage_Table_Seal (p0 : Option Addr) (p1 : Int) (H : PH) (Q : PH → Prop) : Prop :=
  usage_Table_has p0 p1 H fun y2 H1 =>
  mJoin (fun (s4 : Bool) (H6 : PH) =>
  mIf s4
  (mNil p0 fun a9 =>
  mLd Sl.v H6 (a9.add 1) fun x11 =>
  mIdx x11 2 p1 fun a13 =>
  mSt H6 (a13.add 0) ([.int .i64 2]) fun H15 =>
  Q H15)
  (Q H6))
  fun j5 =>
  mIf y2
  (mNil p0 fun a17 =>
  mLd Sl.v H1 (a17.add 1) fun x19 =>
  mIdx x19 2 p1 fun a21 =>
  mLd (.int .i64) H1 (a21.add 0) fun x23 =>
  j5 (x23 == 1) H1)
  (j5 false H1)

set_option maxRecDepth 20000 in
set_option maxHeartbeats 1000000 in
theorem usage_Table_Seal_s (p0 : Option Addr) (p1 : Int) (H : PH) (Q : PH → Prop) (h : usage_Table_Seal p0 p1 H Q) :
    CallsH Try.prog 17 #[.pointer p0, .int .i64 p1] H (fun v H' => v = .tuple #[] ∧ Q H') := by
  unfold usage_Table_Seal at h
  refine callsH_of_go Try.func17 rfl Try.ntmps17 (Nat.le_of_ble_eq_true rfl) ?_
  refine Go.seq ?_
  refine Go.region rfl ?_
  refine GoOps.q (v := .pointer p0) rfl rfl (by decide) (q_move rfl) ?_
  refine GoOps.q (v := .int .i64 p1) rfl rfl (by decide) (q_move rfl) ?_
  refine call_dst rfl (by decide) body39 (usage_Table_has_s _ _ _ _ h) rfl ?_
  rintro _ H1 ⟨y2, rfl, h⟩
  refine GoOps.q (v := .bool y2) rfl rfl (by decide) (q_move rfl) ?_
  refine join_ops 10 (fun ρ (s4 : Bool) => ρ 0 = .pointer p0 ∧ ρ 1 = .int .i64 p1 ∧ ρ 17 = .bool s4) h ?_ ?_ <;> clear h
  · intro s4 H6 ρ h hE
    obtain ⟨e7_0, e7_1, e7_17⟩ := hE
    refine GoOps.nil ?_
    rcases bor s4 with hc8 | hc8
    · have h := h.1 hc8
      refine Go.condT (btT e7_17 hc8) ?_
      refine Go.region rfl ?_
      refine GoOps.q (v := .pointer p0) rfl rfl (by decide) (q_move e7_0) ?_
      obtain ⟨a9, ha10, h⟩ := h
      refine GoOps.q (v := .pointer (some a9)) rfl rfl (by decide) (q_nilCheck (ptn rfl ha10)) ?_
      refine GoOps.q (v := .pointer (some (a9.add 1))) rfl rfl (by decide) (q_fieldAddr foff71_1 rfl) ?_
      obtain ⟨x11, hx12, h⟩ := h
      refine GoOps.q (v := Sl.v x11) rfl rfl (by decide) (q_load scalar50 rfl hx12) ?_
      refine GoOps.q (v := .int .i64 p1) rfl rfl (by decide) (q_move e7_1) ?_
      obtain ⟨a13, ha14, h⟩ := h
      refine GoOps.q (v := .pointer (some a13)) rfl rfl (by decide) (q_idx slice50 ha14 rfl rfl) ?_
      refine GoOps.q (v := .pointer (some (a13.add 0))) rfl rfl (by decide) (q_fieldAddr foff52_0 rfl) ?_
      obtain ⟨q16b, q16o, q16c, q16e, hq16a, hq16b, hq16l, hq16v, h⟩ := h
      refine op_none rfl rfl (do_store (vs := [.int .i64 2]) size3 (pta rfl hq16a) rfl rfl rfl hq16v hq16b hq16l ?_) 
      refine GoOps.nil ?_
      exact Go.fall ⟨.inr rfl, _, _, DOk.nil, (resOk0 Try.results17), ⟨rfl, h⟩⟩
    · have h := h.2 hc8
      refine Go.condF (btF e7_17 hc8) ?_
      refine Go.skip ?_
      exact Go.fall ⟨.inr rfl, _, _, DOk.nil, (resOk0 Try.results17), ⟨rfl, h⟩⟩
  · intro j5 hj5 h
    rcases bor y2 with hc3 | hc3
    · have h := h.1 hc3
      refine GoOps.q (v := .pointer p0) (want_yes rfl rfl rfl hc3) rfl (by decide) (q_move rfl) ?_
      obtain ⟨a17, ha18, h⟩ := h
      refine GoOps.q (v := .pointer (some a17)) (want_yes rfl rfl rfl hc3) rfl (by decide) (q_nilCheck (ptn rfl ha18)) ?_
      refine GoOps.q (v := .pointer (some (a17.add 1))) (want_yes rfl rfl rfl hc3) rfl (by decide) (q_fieldAddr foff71_1 rfl) ?_
      obtain ⟨x19, hx20, h⟩ := h
      refine GoOps.q (v := Sl.v x19) (want_yes rfl rfl rfl hc3) rfl (by decide) (q_load scalar50 rfl hx20) ?_
      refine GoOps.q (v := .int .i64 p1) (want_yes rfl rfl rfl hc3) rfl (by decide) (q_move rfl) ?_
      obtain ⟨a21, ha22, h⟩ := h
      refine GoOps.q (v := .pointer (some a21)) (want_yes rfl rfl rfl hc3) rfl (by decide) (q_idx slice50 ha22 rfl rfl) ?_
      refine GoOps.q (v := .pointer (some (a21.add 0))) (want_yes rfl rfl rfl hc3) rfl (by decide) (q_fieldAddr foff52_0 rfl) ?_
      obtain ⟨x23, hx24, h⟩ := h
      refine GoOps.q (v := .int .i64 x23) (want_yes rfl rfl rfl hc3) rfl (by decide) (q_load scalar3 rfl hx24) ?_
      refine GoOps.q (v := .bool (x23 == 1)) (want_yes rfl rfl rfl hc3) rfl (by decide) (q_eql rfl rfl) ?_
      refine GoOps.q (v := .bool (x23 == 1)) rfl rfl (by decide) (q_pickT (btT rfl hc3) rfl) ?_
      exact hj5 (x23 == 1) _ _ h (by exact ⟨rfl, rfl, rfl⟩)
    · have h := h.2 hc3
      refine no_dst (want_no rfl rfl rfl hc3) rfl (by decide) ?_
      refine no_dst (want_no rfl rfl rfl hc3) rfl (by decide) ?_
      refine no_dst (want_no rfl rfl rfl hc3) rfl (by decide) ?_
      refine no_dst (want_no rfl rfl rfl hc3) rfl (by decide) ?_
      refine no_dst (want_no rfl rfl rfl hc3) rfl (by decide) ?_
      refine no_dst (want_no rfl rfl rfl hc3) rfl (by decide) ?_
      refine no_dst (want_no rfl rfl rfl hc3) rfl (by decide) ?_
      refine no_dst (want_no rfl rfl rfl hc3) rfl (by decide) ?_
      refine no_dst (want_no rfl rfl rfl hc3) rfl (by decide) ?_
      refine GoOps.q (v := .bool false) rfl rfl (by decide) (q_pickF (btF rfl hc3) rfl) ?_
      exact hj5 false _ _ h (by exact ⟨rfl, rfl, rfl⟩)

/-- (*keelson.usage.Table).Sealed$1 -/
def usage_Table_Sealed_c1 {γ : Type} (c0 : Addr) (Y : List Value → γ → PH → (Nat → γ → PH → Prop) → Prop) (g : γ) (H : PH) (Q : Nat → γ → PH → Prop) : Prop :=
  mLd .pointer H c0 fun x1 =>
  mIf (Option.isNone x1)
  (Q (0, g).1 (0, g).2 H)
  (mLd .pointer H c0 fun x4 =>
  mNil x4 fun a6 =>
  mLd Sl.v H (a6.add 1) fun x8 =>
  mLoop (fun (s10 : Int × (Nat × γ)) (H13 : PH) (again11 : (Int × (Nat × γ)) → PH → Prop) =>
  mIf (decide (s10.1 < (x8.len : Int)))
  (mLd .pointer H13 c0 fun x15 =>
  mNil x15 fun a17 =>
  mLd Sl.v H13 (a17.add 1) fun x19 =>
  mIdx x19 2 s10.1 fun a21 =>
  mLd (.int .i64) H13 (a21.add 0) fun x23 =>
  mJoin (fun (s26 : Bool × (Nat × γ)) (H28 : PH) =>
  mIf s26.1
  (Q s26.2.1 s26.2.2 H28)
  (again11 (IntKind.wrap .i64 (s10.1 + 1), s26.2) H28))
  fun j27 =>
  mIf (x23 == 2)
  (mYield Y s10.2 [.int .i64 s10.1] H13 fun q31 H32 =>
  j27 (!(q31.1 == 0), q31) H32)
  (j27 (false, s10.2) H13))
  (Q s10.2.1 s10.2.2 H13))
  (0, (0, g)) H)

set_option maxRecDepth 20000 in
set_option maxHeartbeats 1000000 in
theorem usage_Table_Sealed_c1_s {γ : Type} (c0 : Addr) (Y : List Value → γ → PH → (Nat → γ → PH → Prop) → Prop) (g : γ) (H : PH) (Q : Nat → γ → PH → Prop) (h : usage_Table_Sealed_c1 c0 Y g H Q) :
    IterH Try.prog (.func (.func 59) #[] #[.pointer (some c0)]) Y g H Q := by
  unfold usage_Table_Sealed_c1 at h
  refine iterH_of_goM (fi := []) (ca := [.pointer (some c0)]) body59 Try.func59 rfl Try.ntmps59 (Nat.le_of_ble_eq_true rfl) fun l Tk hd hy => ?_
  generalize hyv : Value.func (.yield l) #[] #[] = yv
  intro D M hM hB hA
  refine Go.seq ?_
  refine Go.seq ?_
  refine Go.region rfl ?_
  obtain ⟨x1, hx2, h⟩ := h
  refine GoOps.q (v := .pointer x1) rfl rfl (by decide) (q_load scalar32 rfl hx2) ?_
  refine GoOps.q (v := .bool (Option.isNone x1)) rfl rfl (by decide) (q_eqlPn Try.underlying32 rfl rfl) ?_
  refine GoOps.nil ?_
  rcases bor (Option.isNone x1) with hc3 | hc3
  · have h := h.1 hc3
    refine Go.condT (btT rfl hc3) ?_
    exact Go.retM (g := (0, g)) hM hB hA ⟨.inl rfl, _, (resOk0 Try.results59), h⟩
  · have h := h.2 hc3
    refine Go.condF (btF rfl hc3) ?_
    refine Go.skip ?_
    refine Go.seq ?_
    refine Go.region rfl ?_
    obtain ⟨x4, hx5, h⟩ := h
    refine GoOps.q (v := .pointer x4) rfl rfl (by decide) (q_load scalar32 rfl hx5) ?_
    obtain ⟨a6, ha7, h⟩ := h
    refine GoOps.q (v := .pointer (some a6)) rfl rfl (by decide) (q_nilCheck (ptn rfl ha7)) ?_
    refine GoOps.q (v := .pointer (some (a6.add 1))) rfl rfl (by decide) (q_fieldAddr foff71_1 rfl) ?_
    obtain ⟨x8, hx9, h⟩ := h
    refine GoOps.q (v := Sl.v x8) rfl rfl (by decide) (q_load scalar50 rfl hx9) ?_
    refine GoOps.q (v := .int .i64 (x8.len : Int)) rfl rfl (by decide) (q_len Try.underlying50 rfl (ls1 rfl)) ?_
    refine GoOps.q (v := .int .i64 0) rfl rfl (by decide) (q_move rfl) ?_
    refine GoOps.nil ?_
    refine Go.block ?_
    refine loop_goM (g := (0, g)) (fun s10 => s10.2) (fun ρ (s10 : Int × (Nat × γ)) => ρ 0 = yv ∧ ρ 1 = .pointer (some c0) ∧ ρ 10 = .int .i64 (x8.len : Int) ∧ ρ 11 = .int .i64 s10.1) hM hB hA h ⟨rfl, rfl, rfl, rfl⟩ rfl ?_
    clear h
    intro ρ s10 H13 again11 hE h hagain11
    obtain ⟨e12_0, e12_1, e12_10, e12_11⟩ := hE
    intro D M hM hB hA
    refine Go.seq ?_
    refine Go.region rfl ?_
    refine GoOps.q (v := .bool (decide (s10.1 < (x8.len : Int)))) rfl rfl (by decide) (q_lss e12_11 e12_10) ?_
    refine GoOps.nil ?_
    refine Go.seq ?_
    rcases bor (decide (s10.1 < (x8.len : Int))) with hc14 | hc14
    · have h := h.1 hc14
      refine Go.condT (btT rfl hc14) ?_
      refine Go.skip ?_
      refine Go.seq ?_
      refine Go.block ?_
      refine Go.seq ?_
      refine Go.region rfl ?_
      refine GoOps.q (v := .int .i64 s10.1) rfl rfl (by decide) (q_move e12_11) ?_
      refine GoOps.q (v := .int .i64 s10.1) rfl rfl (by decide) (q_assign rfl) ?_
      refine GoOps.nil ?_
      refine Go.seq ?_
      refine Go.region rfl ?_
      obtain ⟨x15, hx16, h⟩ := h
      refine GoOps.q (v := .pointer x15) rfl rfl (by decide) (q_load scalar32 e12_1 hx16) ?_
      obtain ⟨a17, ha18, h⟩ := h
      refine GoOps.q (v := .pointer (some a17)) rfl rfl (by decide) (q_nilCheck (ptn rfl ha18)) ?_
      refine GoOps.q (v := .pointer (some (a17.add 1))) rfl rfl (by decide) (q_fieldAddr foff71_1 rfl) ?_
      obtain ⟨x19, hx20, h⟩ := h
      refine GoOps.q (v := Sl.v x19) rfl rfl (by decide) (q_load scalar50 rfl hx20) ?_
      refine GoOps.q (v := .int .i64 s10.1) rfl rfl (by decide) (q_move rfl) ?_
      obtain ⟨a21, ha22, h⟩ := h
      refine GoOps.q (v := .pointer (some a21)) rfl rfl (by decide) (q_idx slice50 ha22 rfl rfl) ?_
      refine GoOps.q (v := .pointer (some (a21.add 0))) rfl rfl (by decide) (q_fieldAddr foff52_0 rfl) ?_
      obtain ⟨x23, hx24, h⟩ := h
      refine GoOps.q (v := .int .i64 x23) rfl rfl (by decide) (q_load scalar3 rfl hx24) ?_
      refine GoOps.q (v := .bool (x23 == 2)) rfl rfl (by decide) (q_eql rfl rfl) ?_
      refine GoOps.q (v := .bool (x23 == 2)) rfl rfl (by decide) (q_move rfl) ?_
      refine join_opsM (TT := fun q : Nat × γ => Tk q.1 q.2) (M := M) 5 (fun s26 => s26.2) (fun ρ (s26 : Bool × (Nat × γ)) => ρ 0 = yv ∧ ρ 1 = .pointer (some c0) ∧ ρ 10 = .int .i64 (x8.len : Int) ∧ ρ 11 = .int .i64 s10.1 ∧ ρ 28 = .bool s26.1) h ?_ ?_ <;> clear h
      · intro s26 H28 ρ h hE
        obtain ⟨e29_0, e29_1, e29_10, e29_11, e29_28⟩ := hE
        refine GoOps.nil ?_
        rcases bor s26.1 with hc30 | hc30
        · have h := h.1 hc30
          refine Go.condT (btT e29_28 hc30) ?_
          exact Go.retM (g := s26.2) hM hB hA ⟨.inl rfl, _, (resOk0 Try.results59), h⟩
        · have h := h.2 hc30
          refine Go.condF (btF e29_28 hc30) ?_
          refine Go.skip ?_
          refine Go.inBlock ?_
          refine Go.region rfl ?_
          refine GoOps.q (v := .int .i64 (IntKind.wrap .i64 (s10.1 + 1))) rfl rfl (by decide) (q_add e29_11 rfl) ?_
          refine GoOps.q (v := .int .i64 (IntKind.wrap .i64 (s10.1 + 1))) rfl rfl (by decide) (q_move rfl) ?_
          refine GoOps.nil ?_
          exact hagain11 (IntKind.wrap .i64 (s10.1 + 1), s26.2) _ _ h (by exact ⟨e29_0, e29_1, e29_10, rfl⟩) _ _ hM hB hA
      · intro j27 hj27 h
        rcases bor (x23 == 2) with hc25 | hc25
        · have h := h.1 hc25
          refine GoOps.q (v := yv) (want_yes rfl rfl rfl hc25) rfl (by decide) (q_move e12_0) ?_
          refine GoOps.q (v := .int .i64 s10.1) (want_yes rfl rfl rfl hc25) rfl (by decide) (q_move rfl) ?_
          refine op_dst (want_yes rfl rfl rfl hc25) rfl (by decide) (do_yieldP (q := s10.2) hy hA (Eq.trans rfl hyv.symm) rfl h fun q31 H32 h => ?_) 
          refine GoOps.q (v := .bool (!(q31.1 == 0))) (want_yes rfl rfl rfl hc25) rfl (by decide) (q_not rfl) ?_
          refine GoOps.q (v := .bool (!(q31.1 == 0))) rfl rfl (by decide) (q_pickT (btT rfl hc25) rfl) ?_
          exact hj27 (!(q31.1 == 0), q31) _ _ h (by exact ⟨e12_0, e12_1, e12_10, e12_11, rfl⟩)
        · have h := h.2 hc25
          refine no_dst (want_no rfl rfl rfl hc25) rfl (by decide) ?_
          refine no_dst (want_no rfl rfl rfl hc25) rfl (by decide) ?_
          refine no_dst (want_no rfl rfl rfl hc25) rfl (by decide) ?_
          refine no_dst (want_no rfl rfl rfl hc25) rfl (by decide) ?_
          refine GoOps.q (v := .bool false) rfl rfl (by decide) (q_pickF (btF rfl hc25) rfl) ?_
          exact hj27 (false, s10.2) _ _ h (by exact ⟨e12_0, e12_1, e12_10, e12_11, rfl⟩)
    · have h := h.2 hc14
      refine Go.condF (btF rfl hc14) ?_
      refine Go.exit rfl ?_
      exact Go.fallM (g := s10.2) hM hB hA ⟨.inr rfl, _, (resOk0 Try.results59), h⟩

/-- (*keelson.usage.Table).Sealed -/
def usage_Table_Sealed (p0 : Option Addr) (H : PH) (Q : Value → PH → Prop) : Prop :=
  mNew H (row [.pointer p0] 32) fun a1 H2 =>
  Q (.func (.func 59) #[] #[.pointer (some a1)]) H2

set_option maxRecDepth 20000 in
set_option maxHeartbeats 1000000 in
theorem usage_Table_Sealed_s (p0 : Option Addr) (H : PH) (Q : Value → PH → Prop) (h : usage_Table_Sealed p0 H Q) :
    CallsH Try.prog 47 #[.pointer p0] H (fun v H' => ∃ (r0 : Value), v = r0 ∧ Q r0 H') := by
  unfold usage_Table_Sealed at h
  refine callsH_of_go Try.func47 rfl Try.ntmps47 (Nat.le_of_ble_eq_true rfl) ?_
  refine Go.seq ?_
  refine Go.region rfl ?_
  refine op_dst rfl rfl (by decide) (do_newBox (cs := [.pointer p0]) rfl rfl fun a1 H2 hb3 => ?_) 
  have h := h a1 H2 hb3
  refine GoOps.q (v := .nilFunc) rfl rfl (by decide) (q_assign rfl) ?_
  refine GoOps.nil ?_
  refine Go.seq ?_
  refine Go.region rfl ?_
  refine GoOps.q (v := (.func (.func 59) #[] #[.pointer (some a1)])) rfl rfl (by decide) (q_makeFunc rfl rfl) ?_
  refine GoOps.q (v := (.func (.func 59) #[] #[.pointer (some a1)])) rfl rfl (by decide) (q_assign rfl) ?_
  refine GoOps.nil ?_
  exact Go.ret ⟨.inl rfl, _, _, DOk.nil, (resOk1 Try.results47 rfl), ⟨_, rfl, h⟩⟩

/-- keelson.keelsonlaw12.sealed -/
def keelsonlaw12_sealed (p0 : Option Addr) (p1 : Int) (H : PH) (Q : Sl → PH → Prop) : Prop :=
  mNew H (row [.int .i64 p1] 3) fun a1 H2 =>
  usage_Table_Sealed p0 H2 fun y5 H4 =>
  mBoth (IsFn y5) <|
  mIf (fisNil y5)
  (Q Sl.nil H4)
  (mNew H4 (row [.slice none 0 0] 23) fun a8 H9 =>
  mJoin (fun (s11 : Unit) (H13 : PH) =>
  mLd Sl.v H13 a8 fun x15 =>
  Q x15 H13)
  fun j12 =>
  IterH Try.prog y5 (fun (vs17 : List Value) (q18 : Unit) (H19 : PH) (y20 : Nat → Unit → PH → Prop) =>
  ∃ (x21 : Int), vs17 = [.int .i64 x21] ∧
  mLd Sl.v H19 a8 fun x22 =>
  mLd (.int .i64) H19 a1 fun x24 =>
  mIf (decide (x24 ≤ (x22.len : Int)))
  (y20 1 () H19)
  (mLd Sl.v H19 a8 fun x27 =>
  mNewS H19 (row [.int .i64 x21] 3) 1 fun r29 H30 =>
  mApp H30 3 1 8 [.int .i64 0] x27 r29 fun r32 H33 =>
  mSt H33 a8 ([Sl.v r32]) fun H34 =>
  y20 0 () H34)) () H9 fun j36 q37 H38 =>
  mIf (j36 == 1)
  (j12 () H38)
  (j12 () H38))

set_option maxRecDepth 20000 in
set_option maxHeartbeats 1000000 in
theorem keelsonlaw12_sealed_s (p0 : Option Addr) (p1 : Int) (H : PH) (Q : Sl → PH → Prop) (h : keelsonlaw12_sealed p0 p1 H Q) :
    CallsH Try.prog 25 #[.pointer p0, .int .i64 p1] H (fun v H' => ∃ (r0 : Sl), v = Sl.v r0 ∧ Q r0 H') := by
  unfold keelsonlaw12_sealed at h
  refine callsH_of_goM Try.func25 rfl Try.ntmps25 (Nat.le_of_ble_eq_true rfl) ?_
  intro D M hM hB hA
  refine Go.seq ?_
  refine Go.region rfl ?_
  refine op_dst rfl rfl (by decide) (do_newBox (cs := [.int .i64 p1]) rfl rfl fun a1 H2 hb3 => ?_) 
  have h := h a1 H2 hb3
  refine GoOps.q (v := Sl.v Sl.nil) rfl rfl (by decide) (q_assign rfl) ?_
  refine GoOps.nil ?_
  refine Go.seq ?_
  refine Go.region rfl ?_
  refine GoOps.q (v := .pointer p0) rfl rfl (by decide) (q_move rfl) ?_
  refine call_dst rfl (by decide) body47 (usage_Table_Sealed_s _ _ _ h) rfl ?_
  rintro y5 H4 ⟨_, rfl, h⟩
  refine GoOps.q (v := y5) rfl rfl (by decide) (q_assign rfl) ?_
  refine GoOps.nil ?_
  refine Go.seq ?_
  refine Go.seq ?_
  refine Go.region rfl ?_
  refine GoOps.q (v := y5) rfl rfl (by decide) (q_move rfl) ?_
  obtain ⟨hf6, h⟩ := h
  refine GoOps.q (v := .bool (fisNil y5)) rfl rfl (by decide) (q_eqlFv Try.underlying78 rfl rfl hf6) ?_
  refine GoOps.nil ?_
  rcases bor (fisNil y5) with hc7 | hc7
  · have h := h.1 hc7
    refine Go.condT (btT rfl hc7) ?_
    refine Go.seq ?_
    refine Go.region rfl ?_
    refine GoOps.q (v := Sl.v Sl.nil) rfl rfl (by decide) (q_assign rfl) ?_
    refine GoOps.nil ?_
    exact Go.retM (g := ()) hM hB hA ⟨.inl rfl, _, (resOk1 Try.results25 rfl), ⟨_, rfl, h⟩⟩
  · have h := h.2 hc7
    refine Go.condF (btF rfl hc7) ?_
    refine Go.skip ?_
    refine Go.seq ?_
    refine Go.region rfl ?_
    refine op_dst rfl rfl (by decide) (do_new zero23 rfl fun a8 H9 hb10 => ?_) 
    have h := h a8 H9 hb10
    refine GoOps.nil ?_
    refine Go.seq ?_
    refine Go.seq ?_
    refine Go.region rfl ?_
    refine GoOps.q (v := y5) rfl rfl (by decide) (q_move rfl) ?_
    refine GoOps.nil ?_
    refine join_goM 1 (fun _ => ()) (fun ρ (s11 : Unit) => ρ 6 = .pointer (some a8)) hB h ?_ ?_ <;> clear h
    · intro s11 H13 ρ h hE
      have e14_6 := hE
      intro D M hM hB hA
      refine Go.seq ?_
      refine Go.region rfl ?_
      obtain ⟨x15, hx16, h⟩ := h
      refine GoOps.q (v := Sl.v x15) rfl rfl (by decide) (q_load scalar23 e14_6 hx16) ?_
      refine GoOps.q (v := Sl.v x15) rfl rfl (by decide) (q_assign rfl) ?_
      refine GoOps.nil ?_
      exact Go.retM (g := ()) hM hB hA ⟨.inl rfl, _, (resOk1 Try.results25 rfl), ⟨_, rfl, h⟩⟩
    · intro j12 hj12 h
      refine Go.block ?_
      refine go_range1 (g := ()) (c1 := .exit 0) h rfl (fun _ _ _ h => h) rfl hM hB hA trivial ?_ ?_ ?_ <;> clear h
      · rintro _ q18 H19 y20 ⟨x21, rfl, h⟩
        refine ⟨rfl, fun lp Bx r hr => ?_⟩
        clear hM hB hA
        intro D M hM hB hA
        refine Go.region rfl ?_
        refine GoOps.q (v := .int .i64 x21) rfl rfl (by decide) (q_assign rfl) ?_
        refine GoOps.nil ?_
        refine go_begin (g := ()) hr hB hA fun M hB hA => ?_
        have hM : Mk (some lp) D M := trivial
        refine Go.block ?_
        refine Go.seq ?_
        refine Go.seq ?_
        refine Go.region rfl ?_
        obtain ⟨x22, hx23, h⟩ := h
        refine GoOps.q (v := Sl.v x22) rfl rfl (by decide) (q_load scalar23 rfl hx23) ?_
        refine GoOps.q (v := .int .i64 (x22.len : Int)) rfl rfl (by decide) (q_len Try.underlying23 rfl (ls1 rfl)) ?_
        obtain ⟨x24, hx25, h⟩ := h
        refine GoOps.q (v := .int .i64 x24) rfl rfl (by decide) (q_load scalar3 rfl hx25) ?_
        refine GoOps.q (v := .bool (decide (x24 ≤ (x22.len : Int)))) rfl rfl (by decide) (q_geq rfl rfl) ?_
        refine GoOps.nil ?_
        rcases bor (decide (x24 ≤ (x22.len : Int))) with hc26 | hc26
        · have h := h.1 hc26
          refine Go.condT (btT rfl hc26) ?_
          exact Go.exitM (g := ()) rfl hM hB hA ⟨1, ⟨0, rfl, rfl⟩, h⟩
        · have h := h.2 hc26
          refine Go.condF (btF rfl hc26) ?_
          refine Go.skip ?_
          refine Go.region rfl ?_
          obtain ⟨x27, hx28, h⟩ := h
          refine GoOps.q (v := Sl.v x27) rfl rfl (by decide) (q_load scalar23 rfl hx28) ?_
          refine GoOps.q (v := .int .i64 x21) rfl rfl (by decide) (q_move rfl) ?_
          refine op_dst rfl rfl (by decide) (do_bs (ps := [(0, .int .i64 x21)]) (zs := [.int .i64 0]) (cs := [.int .i64 x21]) slice23 zero3 rfl rfl (by decide) (by decide) rfl rfl fun r29 H30 hb31 => ?_) 
          have h := h r29 H30 hb31
          refine op_dst rfl rfl (by decide) (do_append (zs := [.int .i64 0]) slice23 bytes3 (by decide) zero3 rfl rfl (by decide) rfl rfl Try.underlying23 rfl h fun r32 H33 h => ?_) 
          obtain ⟨q35b, q35o, q35c, q35e, hq35a, hq35b, hq35l, hq35v, h⟩ := h
          refine op_none rfl rfl (do_store (vs := [Sl.v r32]) size23 (pta rfl hq35a) rfl rfl rfl hq35v hq35b hq35l ?_) 
          refine GoOps.nil ?_
          refine Go.inBlock ?_
          exact Go.fallM (g := ()) hM hB hA ⟨0, rfl, h⟩
      · intro q37 H38 h
        intro D M hM hB hA
        refine Go.inBlock ?_
        exact hj12 () _ _ h (by exact rfl) _ _ hM hB hA
      · intro q37 H38 h
        intro D M hM hB hA
        refine Go.exit rfl ?_
        exact hj12 () _ _ h (by exact rfl) _ _ hM hB hA

/-- keelson.keelsonalike.Ints -/
def keelsonalike_Ints (p0 : Sl) (p1 : Sl) (H : PH) (Q : Bool → PH → Prop) : Prop :=
  mIf ((p0.len : Int) != (p1.len : Int))
  (Q false H)
  (mLoop (fun (s2 : Int) (H5 : PH) (again3 : Int → PH → Prop) =>
  mIf (decide (s2 < (p0.len : Int)))
  (mIdx p0 1 s2 fun a7 =>
  mLd (.int .i64) H5 a7 fun x9 =>
  mIdx p1 1 s2 fun a11 =>
  mLd (.int .i64) H5 a11 fun x13 =>
  mIf (x9 != x13)
  (Q false H5)
  (again3 (IntKind.wrap .i64 (s2 + 1)) H5))
  (Q true H5))
  0 H)

set_option maxRecDepth 20000 in
set_option maxHeartbeats 1000000 in
theorem keelsonalike_Ints_s (p0 : Sl) (p1 : Sl) (H : PH) (Q : Bool → PH → Prop) (h : keelsonalike_Ints p0 p1 H Q) :
    CallsH Try.prog 22 #[Sl.v p0, Sl.v p1] H (fun v H' => ∃ (r0 : Bool), v = .bool r0 ∧ Q r0 H') := by
  unfold keelsonalike_Ints at h
  refine callsH_of_go Try.func22 rfl Try.ntmps22 (Nat.le_of_ble_eq_true rfl) ?_
  refine Go.seq ?_
  refine Go.region rfl ?_
  refine GoOps.q (v := .bool false) rfl rfl (by decide) (q_assign rfl) ?_
  refine GoOps.nil ?_
  refine Go.seq ?_
  refine Go.seq ?_
  refine Go.region rfl ?_
  refine GoOps.q (v := Sl.v p0) rfl rfl (by decide) (q_move rfl) ?_
  refine GoOps.q (v := .int .i64 (p0.len : Int)) rfl rfl (by decide) (q_len Try.underlying23 rfl (ls1 rfl)) ?_
  refine GoOps.q (v := Sl.v p1) rfl rfl (by decide) (q_move rfl) ?_
  refine GoOps.q (v := .int .i64 (p1.len : Int)) rfl rfl (by decide) (q_len Try.underlying23 rfl (ls1 rfl)) ?_
  refine GoOps.q (v := .bool ((p0.len : Int) != (p1.len : Int))) rfl rfl (by decide) (q_neq rfl rfl) ?_
  refine GoOps.nil ?_
  rcases bor ((p0.len : Int) != (p1.len : Int)) with hc1 | hc1
  · have h := h.1 hc1
    refine Go.condT (btT rfl hc1) ?_
    refine Go.seq ?_
    refine Go.region rfl ?_
    refine GoOps.q (v := .bool false) rfl rfl (by decide) (q_assign rfl) ?_
    refine GoOps.nil ?_
    exact Go.ret ⟨.inl rfl, _, _, DOk.nil, (resOk1 Try.results22 rfl), ⟨_, rfl, h⟩⟩
  · have h := h.2 hc1
    refine Go.condF (btF rfl hc1) ?_
    refine Go.skip ?_
    refine Go.seq ?_
    refine Go.seq ?_
    refine Go.region rfl ?_
    refine GoOps.q (v := .int .i64 0) rfl rfl (by decide) (q_assign rfl) ?_
    refine GoOps.nil ?_
    refine Go.block ?_
    refine loop_go (fun ρ (s2 : Int) => ρ 0 = Sl.v p0 ∧ ρ 1 = Sl.v p1 ∧ ρ 5 = .int .i64 s2) h ⟨rfl, rfl, rfl⟩ ?_
    clear h
    intro ρ s2 H5 again3 hE h hagain3
    obtain ⟨e4_0, e4_1, e4_5⟩ := hE
    refine Go.seq ?_
    refine Go.seq ?_
    refine Go.region rfl ?_
    refine GoOps.q (v := .int .i64 s2) rfl rfl (by decide) (q_move e4_5) ?_
    refine GoOps.q (v := Sl.v p0) rfl rfl (by decide) (q_move e4_0) ?_
    refine GoOps.q (v := .int .i64 (p0.len : Int)) rfl rfl (by decide) (q_len Try.underlying23 rfl (ls1 rfl)) ?_
    refine GoOps.q (v := .bool (decide (s2 < (p0.len : Int)))) rfl rfl (by decide) (q_lss rfl rfl) ?_
    refine GoOps.nil ?_
    rcases bor (decide (s2 < (p0.len : Int))) with hc6 | hc6
    · have h := h.1 hc6
      refine Go.condT (btT rfl hc6) ?_
      refine Go.skip ?_
      refine Go.seq ?_
      refine Go.block ?_
      refine Go.seq ?_
      refine Go.draw mixed ?_
      refine plan_pure (i := 0) (d := 17) (S2 := 1) (v := Sl.v p0) rfl (by decide +kernel) rfl (q_move e4_0) ?_
      refine plan_pure (i := 1) (d := 18) (S2 := 3) (v := .int .i64 s2) rfl (by decide +kernel) rfl (q_move e4_5) ?_
      obtain ⟨a7, ha8, h⟩ := h
      refine plan_pure (i := 2) (d := 19) (S2 := 7) (v := .pointer (some a7)) rfl (by decide +kernel) rfl (q_idx slice23 ha8 rfl rfl) ?_
      obtain ⟨x9, hx10, h⟩ := h
      refine plan_load (i := 3) (d := 20) (S2 := 15) (v := .int .i64 x9) rfl (by decide +kernel) rfl (q_load scalar3 rfl hx10) ?_
      refine plan_pure (i := 4) (d := 21) (S2 := 31) (v := Sl.v p1) rfl (by decide +kernel) rfl (q_move e4_1) ?_
      refine plan_pure (i := 5) (d := 22) (S2 := 63) (v := .int .i64 s2) rfl (by decide +kernel) rfl (q_move e4_5) ?_
      obtain ⟨a11, ha12, h⟩ := h
      refine plan_pure (i := 6) (d := 23) (S2 := 127) (v := .pointer (some a11)) rfl (by decide +kernel) rfl (q_idx slice23 ha12 rfl rfl) ?_
      obtain ⟨x13, hx14, h⟩ := h
      refine plan_load (i := 7) (d := 24) (S2 := 255) (v := .int .i64 x13) rfl (by decide +kernel) rfl (q_load scalar3 rfl hx14) ?_
      refine plan_pure (i := 8) (d := 25) (S2 := 511) (v := .bool (x9 != x13)) rfl (by decide +kernel) rfl (q_neq rfl rfl) ?_
      refine plan_done (by decide +kernel) ?_
      rcases bor (x9 != x13) with hc15 | hc15
      · have h := h.1 hc15
        refine Go.condT (btT rfl hc15) ?_
        refine Go.seq ?_
        refine Go.region rfl ?_
        refine GoOps.q (v := .bool false) rfl rfl (by decide) (q_assign rfl) ?_
        refine GoOps.nil ?_
        exact Go.ret ⟨.inl rfl, _, _, DOk.nil, (resOk1 Try.results22 rfl), ⟨_, rfl, h⟩⟩
      · have h := h.2 hc15
        refine Go.condF (btF rfl hc15) ?_
        refine Go.skip ?_
        refine Go.inBlock ?_
        refine Go.region rfl ?_
        refine GoOps.q (v := .int .i64 s2) rfl rfl (by decide) (q_move e4_5) ?_
        refine GoOps.q (v := .int .i64 (IntKind.wrap .i64 (s2 + 1))) rfl rfl (by decide) (q_add rfl rfl) ?_
        refine GoOps.q (v := .int .i64 (IntKind.wrap .i64 (s2 + 1))) rfl rfl (by decide) (q_assign rfl) ?_
        refine GoOps.nil ?_
        exact hagain3 _ _ _ h ⟨e4_0, e4_1, rfl⟩
    · have h := h.2 hc6
      refine Go.condF (btF rfl hc6) ?_
      refine Go.exit rfl ?_
      refine Go.seq ?_
      refine Go.region rfl ?_
      refine GoOps.q (v := .bool true) rfl rfl (by decide) (q_assign rfl) ?_
      refine GoOps.nil ?_
      exact Go.ret ⟨.inl rfl, _, _, DOk.nil, (resOk1 Try.results22 rfl), ⟨_, rfl, h⟩⟩

/-- (*keelson.geom.Geom).Has -/
def geom_Geom_Has (p0 : Option Addr) (p1 : Int) (H : PH) (Q : Bool → PH → Prop) : Prop :=
  mJoin (fun (s2 : Bool) (H4 : PH) =>
  Q s2 H4)
  fun j3 =>
  mIf (!(Option.isNone p0))
  (mNil p0 fun a6 =>
  mLd (.int .i64) H ((a6.add 0).add 1) fun x8 =>
  geom_within p1 0 (IntKind.wrap .i64 (x8 - 1)) H fun y11 H10 =>
  j3 y11 H10)
  (j3 false H)

set_option maxRecDepth 20000 in
set_option maxHeartbeats 1000000 in
theorem geom_Geom_Has_s (p0 : Option Addr) (p1 : Int) (H : PH) (Q : Bool → PH → Prop) (h : geom_Geom_Has p0 p1 H Q) :
    CallsH Try.prog 43 #[.pointer p0, .int .i64 p1] H (fun v H' => ∃ (r0 : Bool), v = .bool r0 ∧ Q r0 H') := by
  unfold geom_Geom_Has at h
  refine callsH_of_go Try.func43 rfl Try.ntmps43 (Nat.le_of_ble_eq_true rfl) ?_
  refine Go.seq ?_
  refine Go.region rfl ?_
  refine GoOps.q (v := .bool false) rfl rfl (by decide) (q_assign rfl) ?_
  refine GoOps.nil ?_
  refine Go.seq ?_
  refine Go.region rfl ?_
  refine GoOps.q (v := .pointer p0) rfl rfl (by decide) (q_move rfl) ?_
  refine GoOps.q (v := .bool (!(Option.isNone p0))) rfl rfl (by decide) (q_neqPn Try.underlying28 rfl rfl) ?_
  refine GoOps.q (v := .bool (!(Option.isNone p0))) rfl rfl (by decide) (q_move rfl) ?_
  refine join_ops 9 (fun ρ (s2 : Bool) => ρ 16 = .bool s2) h ?_ ?_ <;> clear h
  · intro s2 H4 ρ h hE
    have e5_16 := hE
    refine GoOps.q (v := .bool s2) rfl rfl (by decide) (q_assign e5_16) ?_
    refine GoOps.nil ?_
    exact Go.ret ⟨.inl rfl, _, _, DOk.nil, (resOk1 Try.results43 rfl), ⟨_, rfl, h⟩⟩
  · intro j3 hj3 h
    rcases bor (!(Option.isNone p0)) with hc1 | hc1
    · have h := h.1 hc1
      refine GoOps.q (v := .int .i64 p1) (want_yes rfl rfl rfl hc1) rfl (by decide) (q_move rfl) ?_
      refine GoOps.q (v := .pointer p0) (want_yes rfl rfl rfl hc1) rfl (by decide) (q_move rfl) ?_
      obtain ⟨a6, ha7, h⟩ := h
      refine GoOps.q (v := .pointer (some a6)) (want_yes rfl rfl rfl hc1) rfl (by decide) (q_nilCheck (ptn rfl ha7)) ?_
      refine GoOps.q (v := .pointer (some (a6.add 0))) (want_yes rfl rfl rfl hc1) rfl (by decide) (q_fieldAddr foff68_0 rfl) ?_
      refine GoOps.q (v := .pointer (some ((a6.add 0).add 1))) (want_yes rfl rfl rfl hc1) rfl (by decide) (q_fieldAddr foff26_1 rfl) ?_
      obtain ⟨x8, hx9, h⟩ := h
      refine GoOps.q (v := .int .i64 x8) (want_yes rfl rfl rfl hc1) rfl (by decide) (q_load scalar3 rfl hx9) ?_
      refine GoOps.q (v := .int .i64 (IntKind.wrap .i64 (x8 - 1))) (want_yes rfl rfl rfl hc1) rfl (by decide) (q_sub rfl rfl) ?_
      refine call_dst (want_yes rfl rfl rfl hc1) (by decide) body36 (geom_within_s _ _ _ _ _ h) rfl ?_
      rintro _ H10 ⟨y11, rfl, h⟩
      refine GoOps.q (v := .bool y11) rfl rfl (by decide) (q_pickT (btT rfl hc1) rfl) ?_
      exact hj3 y11 _ _ h (by exact rfl)
    · have h := h.2 hc1
      refine no_dst (want_no rfl rfl rfl hc1) rfl (by decide) ?_
      refine no_dst (want_no rfl rfl rfl hc1) rfl (by decide) ?_
      refine no_dst (want_no rfl rfl rfl hc1) rfl (by decide) ?_
      refine no_dst (want_no rfl rfl rfl hc1) rfl (by decide) ?_
      refine no_dst (want_no rfl rfl rfl hc1) rfl (by decide) ?_
      refine no_dst (want_no rfl rfl rfl hc1) rfl (by decide) ?_
      refine no_dst (want_no rfl rfl rfl hc1) rfl (by decide) ?_
      refine no_dst (want_no rfl rfl rfl hc1) rfl (by decide) ?_
      refine GoOps.q (v := .bool false) rfl rfl (by decide) (q_pickF (btF rfl hc1) rfl) ?_
      exact hj3 false _ _ h (by exact rfl)

/-- keelson.geom.up -/
def geom_up (p0 : Int) (p1 : Int) (H : PH) (Q : Int → PH → Prop) : Prop :=
  mNe p1 <|
  Q (IntKind.wrap .i64 (Int.tdiv (IntKind.wrap .i64 ((IntKind.wrap .i64 (p0 + p1)) - 1)) p1)) H

set_option maxRecDepth 20000 in
set_option maxHeartbeats 1000000 in
theorem geom_up_s (p0 : Int) (p1 : Int) (H : PH) (Q : Int → PH → Prop) (h : geom_up p0 p1 H Q) :
    CallsH Try.prog 61 #[.int .i64 p0, .int .i64 p1] H (fun v H' => ∃ (r0 : Int), v = .int .i64 r0 ∧ Q r0 H') := by
  unfold geom_up at h
  refine callsH_of_go Try.func61 rfl Try.ntmps61 (Nat.le_of_ble_eq_true rfl) ?_
  refine Go.seq ?_
  refine Go.region rfl ?_
  refine GoOps.q (v := .int .i64 0) rfl rfl (by decide) (q_assign rfl) ?_
  refine GoOps.nil ?_
  refine Go.seq ?_
  refine Go.region rfl ?_
  refine GoOps.q (v := .int .i64 p0) rfl rfl (by decide) (q_move rfl) ?_
  refine GoOps.q (v := .int .i64 p1) rfl rfl (by decide) (q_move rfl) ?_
  refine GoOps.q (v := .int .i64 (IntKind.wrap .i64 (p0 + p1))) rfl rfl (by decide) (q_add rfl rfl) ?_
  refine GoOps.q (v := .int .i64 (IntKind.wrap .i64 ((IntKind.wrap .i64 (p0 + p1)) - 1))) rfl rfl (by decide) (q_sub rfl rfl) ?_
  refine GoOps.q (v := .int .i64 p1) rfl rfl (by decide) (q_move rfl) ?_
  obtain ⟨hn1, h⟩ := h
  refine GoOps.q (v := .int .i64 (IntKind.wrap .i64 (Int.tdiv (IntKind.wrap .i64 ((IntKind.wrap .i64 (p0 + p1)) - 1)) p1))) rfl rfl (by decide) (q_quo hn1 rfl rfl) ?_
  refine GoOps.q (v := .int .i64 (IntKind.wrap .i64 (Int.tdiv (IntKind.wrap .i64 ((IntKind.wrap .i64 (p0 + p1)) - 1)) p1))) rfl rfl (by decide) (q_assign rfl) ?_
  refine GoOps.nil ?_
  exact Go.ret ⟨.inl rfl, _, _, DOk.nil, (resOk1 Try.results61 rfl), ⟨_, rfl, h⟩⟩

/-- (*keelson.geom.Geom).RegionLen -/
def geom_Geom_RegionLen (p0 : Option Addr) (H : PH) (Q : Int → PH → Prop) : Prop :=
  mIf (Option.isNone p0)
  (Q 0 H)
  (mNil p0 fun a2 =>
  mLd (.int .i64) H ((a2.add 0).add 1) fun x4 =>
  geom_up (IntKind.wrap .i64 (43 + (IntKind.wrap .i64 (5 * x4)))) 64 H fun y7 H6 =>
  Q y7 H6)

set_option maxRecDepth 20000 in
set_option maxHeartbeats 1000000 in
theorem geom_Geom_RegionLen_s (p0 : Option Addr) (H : PH) (Q : Int → PH → Prop) (h : geom_Geom_RegionLen p0 H Q) :
    CallsH Try.prog 57 #[.pointer p0] H (fun v H' => ∃ (r0 : Int), v = .int .i64 r0 ∧ Q r0 H') := by
  unfold geom_Geom_RegionLen at h
  refine callsH_of_go Try.func57 rfl Try.ntmps57 (Nat.le_of_ble_eq_true rfl) ?_
  refine Go.seq ?_
  refine Go.region rfl ?_
  refine GoOps.q (v := .int .i64 0) rfl rfl (by decide) (q_assign rfl) ?_
  refine GoOps.nil ?_
  refine Go.seq ?_
  refine Go.seq ?_
  refine Go.region rfl ?_
  refine GoOps.q (v := .pointer p0) rfl rfl (by decide) (q_move rfl) ?_
  refine GoOps.q (v := .bool (Option.isNone p0)) rfl rfl (by decide) (q_eqlPn Try.underlying28 rfl rfl) ?_
  refine GoOps.nil ?_
  rcases bor (Option.isNone p0) with hc1 | hc1
  · have h := h.1 hc1
    refine Go.condT (btT rfl hc1) ?_
    refine Go.seq ?_
    refine Go.region rfl ?_
    refine GoOps.q (v := .int .i64 0) rfl rfl (by decide) (q_assign rfl) ?_
    refine GoOps.nil ?_
    exact Go.ret ⟨.inl rfl, _, _, DOk.nil, (resOk1 Try.results57 rfl), ⟨_, rfl, h⟩⟩
  · have h := h.2 hc1
    refine Go.condF (btF rfl hc1) ?_
    refine Go.skip ?_
    refine Go.seq ?_
    refine Go.region rfl ?_
    refine GoOps.q (v := .pointer p0) rfl rfl (by decide) (q_move rfl) ?_
    obtain ⟨a2, ha3, h⟩ := h
    refine GoOps.q (v := .pointer (some a2)) rfl rfl (by decide) (q_nilCheck (ptn rfl ha3)) ?_
    refine GoOps.q (v := .pointer (some (a2.add 0))) rfl rfl (by decide) (q_fieldAddr foff68_0 rfl) ?_
    refine GoOps.q (v := .pointer (some ((a2.add 0).add 1))) rfl rfl (by decide) (q_fieldAddr foff26_1 rfl) ?_
    obtain ⟨x4, hx5, h⟩ := h
    refine GoOps.q (v := .int .i64 x4) rfl rfl (by decide) (q_load scalar3 rfl hx5) ?_
    refine GoOps.q (v := .int .i64 (IntKind.wrap .i64 (5 * x4))) rfl rfl (by decide) (q_mul rfl rfl) ?_
    refine GoOps.q (v := .int .i64 (IntKind.wrap .i64 (43 + (IntKind.wrap .i64 (5 * x4))))) rfl rfl (by decide) (q_add rfl rfl) ?_
    refine call_dst rfl (by decide) body61 (geom_up_s _ _ _ _ h) rfl ?_
    rintro _ H6 ⟨y7, rfl, h⟩
    refine GoOps.q (v := .int .i64 y7) rfl rfl (by decide) (q_assign rfl) ?_
    refine GoOps.nil ?_
    exact Go.ret ⟨.inl rfl, _, _, DOk.nil, (resOk1 Try.results57 rfl), ⟨_, rfl, h⟩⟩

/-- (*keelson.geom.Geom).Pages -/
def geom_Geom_Pages (p0 : Option Addr) (H : PH) (Q : Int → PH → Prop) : Prop :=
  geom_Geom_Config p0 H fun y2 H1 =>
  geom_up y2.1 15 H1 fun y4 H3 =>
  Q y4 H3

set_option maxRecDepth 20000 in
set_option maxHeartbeats 1000000 in
theorem geom_Geom_Pages_s (p0 : Option Addr) (H : PH) (Q : Int → PH → Prop) (h : geom_Geom_Pages p0 H Q) :
    CallsH Try.prog 58 #[.pointer p0] H (fun v H' => ∃ (r0 : Int), v = .int .i64 r0 ∧ Q r0 H') := by
  unfold geom_Geom_Pages at h
  refine callsH_of_go Try.func58 rfl Try.ntmps58 (Nat.le_of_ble_eq_true rfl) ?_
  refine Go.seq ?_
  refine Go.region rfl ?_
  refine GoOps.q (v := .int .i64 0) rfl rfl (by decide) (q_assign rfl) ?_
  refine GoOps.nil ?_
  refine Go.seq ?_
  refine Go.region rfl ?_
  refine GoOps.q (v := .pointer p0) rfl rfl (by decide) (q_move rfl) ?_
  refine call_dst rfl (by decide) body37 (geom_Geom_Config_s _ _ _ h) rfl ?_
  rintro _ H1 ⟨y2, rfl, h⟩
  refine GoOps.q (v := .int .i64 y2.1) rfl rfl (by decide) (q_field fis26_0 scalar3 rfl rfl) ?_
  refine call_dst rfl (by decide) body61 (geom_up_s _ _ _ _ h) rfl ?_
  rintro _ H3 ⟨y4, rfl, h⟩
  refine GoOps.q (v := .int .i64 y4) rfl rfl (by decide) (q_assign rfl) ?_
  refine GoOps.nil ?_
  exact Go.ret ⟨.inl rfl, _, _, DOk.nil, (resOk1 Try.results58 rfl), ⟨_, rfl, h⟩⟩

/-- (*keelson.geom.Geom).segs -/
def geom_Geom_segs (p0 : Option Addr) (H : PH) (Q : Int → PH → Prop) : Prop :=
  geom_Geom_RegionLen p0 H fun y2 H1 =>
  geom_Geom_Pages p0 H1 fun y4 H3 =>
  Q (IntKind.wrap .i64 (2 + (IntKind.wrap .i64 (2 * (IntKind.wrap .i64 (y2 + (IntKind.wrap .i64 (2 * y4)))))))) H3

set_option maxRecDepth 20000 in
set_option maxHeartbeats 1000000 in
theorem geom_Geom_segs_s (p0 : Option Addr) (H : PH) (Q : Int → PH → Prop) (h : geom_Geom_segs p0 H Q) :
    CallsH Try.prog 44 #[.pointer p0] H (fun v H' => ∃ (r0 : Int), v = .int .i64 r0 ∧ Q r0 H') := by
  unfold geom_Geom_segs at h
  refine callsH_of_go Try.func44 rfl Try.ntmps44 (Nat.le_of_ble_eq_true rfl) ?_
  refine Go.seq ?_
  refine Go.region rfl ?_
  refine GoOps.q (v := .int .i64 0) rfl rfl (by decide) (q_assign rfl) ?_
  refine GoOps.nil ?_
  refine Go.seq ?_
  refine Go.region rfl ?_
  refine GoOps.q (v := .pointer p0) rfl rfl (by decide) (q_move rfl) ?_
  refine call_dst rfl (by decide) body57 (geom_Geom_RegionLen_s _ _ _ h) rfl ?_
  rintro _ H1 ⟨y2, rfl, h⟩
  refine GoOps.q (v := .pointer p0) rfl rfl (by decide) (q_move rfl) ?_
  refine call_dst rfl (by decide) body58 (geom_Geom_Pages_s _ _ _ h) rfl ?_
  rintro _ H3 ⟨y4, rfl, h⟩
  refine GoOps.q (v := .int .i64 (IntKind.wrap .i64 (2 * y4))) rfl rfl (by decide) (q_mul rfl rfl) ?_
  refine GoOps.q (v := .int .i64 (IntKind.wrap .i64 (y2 + (IntKind.wrap .i64 (2 * y4))))) rfl rfl (by decide) (q_add rfl rfl) ?_
  refine GoOps.q (v := .int .i64 (IntKind.wrap .i64 (2 * (IntKind.wrap .i64 (y2 + (IntKind.wrap .i64 (2 * y4))))))) rfl rfl (by decide) (q_mul rfl rfl) ?_
  refine GoOps.q (v := .int .i64 (IntKind.wrap .i64 (2 + (IntKind.wrap .i64 (2 * (IntKind.wrap .i64 (y2 + (IntKind.wrap .i64 (2 * y4))))))))) rfl rfl (by decide) (q_add rfl rfl) ?_
  refine GoOps.q (v := .int .i64 (IntKind.wrap .i64 (2 + (IntKind.wrap .i64 (2 * (IntKind.wrap .i64 (y2 + (IntKind.wrap .i64 (2 * y4))))))))) rfl rfl (by decide) (q_assign rfl) ?_
  refine GoOps.nil ?_
  exact Go.ret ⟨.inl rfl, _, _, DOk.nil, (resOk1 Try.results44 rfl), ⟨_, rfl, h⟩⟩

/-- (*keelson.geom.Geom).Seg -/
def geom_Geom_Seg (p0 : Option Addr) (p1 : Int) (H : PH) (Q : Int → PH → Prop) : Prop :=
  geom_Geom_Has p0 p1 H fun y2 H1 =>
  mIf (!y2)
  (Q (-1) H1)
  (mNil p0 fun a4 =>
  mLd (.int .i64) H1 ((a4.add 0).add 2) fun x6 =>
  geom_Geom_segs p0 H1 fun y9 H8 =>
  mSame H8 ((a4.add 0).add 2) (.int .i64 x6) <|
  Q (IntKind.wrap .i64 (y9 + (IntKind.wrap .i64 (p1 * x6)))) H8)

set_option maxRecDepth 20000 in
set_option maxHeartbeats 1000000 in
theorem geom_Geom_Seg_s (p0 : Option Addr) (p1 : Int) (H : PH) (Q : Int → PH → Prop) (h : geom_Geom_Seg p0 p1 H Q) :
    CallsH Try.prog 19 #[.pointer p0, .int .i64 p1] H (fun v H' => ∃ (r0 : Int), v = .int .i64 r0 ∧ Q r0 H') := by
  unfold geom_Geom_Seg at h
  refine callsH_of_go Try.func19 rfl Try.ntmps19 (Nat.le_of_ble_eq_true rfl) ?_
  refine Go.seq ?_
  refine Go.region rfl ?_
  refine GoOps.q (v := .int .i64 0) rfl rfl (by decide) (q_assign rfl) ?_
  refine GoOps.nil ?_
  refine Go.seq ?_
  refine Go.seq ?_
  refine Go.region rfl ?_
  refine GoOps.q (v := .pointer p0) rfl rfl (by decide) (q_move rfl) ?_
  refine GoOps.q (v := .int .i64 p1) rfl rfl (by decide) (q_move rfl) ?_
  refine call_dst rfl (by decide) body43 (geom_Geom_Has_s _ _ _ _ h) rfl ?_
  rintro _ H1 ⟨y2, rfl, h⟩
  refine GoOps.q (v := .bool (!y2)) rfl rfl (by decide) (q_not rfl) ?_
  refine GoOps.nil ?_
  rcases bor (!y2) with hc3 | hc3
  · have h := h.1 hc3
    refine Go.condT (btT rfl hc3) ?_
    refine Go.seq ?_
    refine Go.region rfl ?_
    refine GoOps.q (v := .int .i64 (-1)) rfl rfl (by decide) (q_assign rfl) ?_
    refine GoOps.nil ?_
    exact Go.ret ⟨.inl rfl, _, _, DOk.nil, (resOk1 Try.results19 rfl), ⟨_, rfl, h⟩⟩
  · have h := h.2 hc3
    refine Go.condF (btF rfl hc3) ?_
    refine Go.skip ?_
    refine Go.seq ?_
    refine Go.draw mixed ?_
    refine plan_pure (i := 0) (d := 9) (S2 := 1) (v := .pointer p0) rfl (by decide +kernel) rfl (q_move rfl) ?_
    refine plan_pure (i := 2) (d := 11) (S2 := 5) (v := .int .i64 p1) rfl (by decide +kernel) rfl (q_move rfl) ?_
    refine plan_pure (i := 3) (d := 12) (S2 := 13) (v := .pointer p0) rfl (by decide +kernel) rfl (q_move rfl) ?_
    obtain ⟨a4, ha5, h⟩ := h
    refine plan_pure (i := 4) (d := 13) (S2 := 29) (v := .pointer (some a4)) rfl (by decide +kernel) rfl (q_nilCheck (ptn rfl ha5)) ?_
    refine plan_pure (i := 5) (d := 14) (S2 := 61) (v := .pointer (some (a4.add 0))) rfl (by decide +kernel) rfl (q_fieldAddr foff68_0 rfl) ?_
    refine plan_pure (i := 6) (d := 15) (S2 := 125) (v := .pointer (some ((a4.add 0).add 2))) rfl (by decide +kernel) rfl (q_fieldAddr foff26_2 rfl) ?_
    obtain ⟨x6, hx7, h⟩ := h
    refine plan_load (i := 7) (d := 16) (S2 := 253) (v := .int .i64 x6) rfl (by decide +kernel) rfl (q_load scalar3 rfl hx7) ?_
    refine plan_pure (i := 8) (d := 17) (S2 := 509) (v := .int .i64 (IntKind.wrap .i64 (p1 * x6))) rfl (by decide +kernel) rfl (q_mul rfl rfl) ?_
    refine plan_one (j := 1) (S2 := 511) (by decide +kernel) rfl (by decide) rfl ?_
    refine do_call2 body44 (geom_Geom_segs_s _ _ _ h) rfl ?_
    rintro _ H8 ⟨y9, rfl, h⟩
    obtain ⟨hr10, h⟩ := h
    refine ⟨_, (.inr ⟨⟨_, _, rfl, rfl, q_load scalar3 rfl hr10⟩, _, rfl, rfl⟩), ?_⟩
    refine plan_pure (i := 9) (d := 18) (S2 := 1023) (v := .int .i64 (IntKind.wrap .i64 (y9 + (IntKind.wrap .i64 (p1 * x6))))) rfl (by decide +kernel) rfl (q_add rfl rfl) ?_
    refine plan_pure (i := 10) (d := 4) (S2 := 2047) (v := .int .i64 (IntKind.wrap .i64 (y9 + (IntKind.wrap .i64 (p1 * x6))))) rfl (by decide +kernel) rfl (q_assign rfl) ?_
    refine plan_done (by decide +kernel) ?_
    exact Go.ret ⟨.inl rfl, _, _, DOk.nil, (resOk1 Try.results19 rfl), ⟨_, rfl, h⟩⟩

/-- (*keelson.geom.Geom).Sectors -/
def geom_Geom_Sectors (p0 : Option Addr) (H : PH) (Q : Int → PH → Prop) : Prop :=
  mIf (Option.isNone p0)
  (Q 0 H)
  (mNil p0 fun a2 =>
  mLd (.int .i64) H ((a2.add 0).add 1) fun x4 =>
  mNil p0 fun a6 =>
  mLd (.int .i64) H ((a6.add 0).add 2) fun x8 =>
  geom_Geom_segs p0 H fun y11 H10 =>
  mSame H10 ((a6.add 0).add 2) (.int .i64 x8) <|
  mSame H10 ((a2.add 0).add 1) (.int .i64 x4) <|
  Q (IntKind.wrap .i64 (y11 + (IntKind.wrap .i64 (x4 * x8)))) H10)

set_option maxRecDepth 20000 in
set_option maxHeartbeats 1000000 in
theorem geom_Geom_Sectors_s (p0 : Option Addr) (H : PH) (Q : Int → PH → Prop) (h : geom_Geom_Sectors p0 H Q) :
    CallsH Try.prog 23 #[.pointer p0] H (fun v H' => ∃ (r0 : Int), v = .int .i64 r0 ∧ Q r0 H') := by
  unfold geom_Geom_Sectors at h
  refine callsH_of_go Try.func23 rfl Try.ntmps23 (Nat.le_of_ble_eq_true rfl) ?_
  refine Go.seq ?_
  refine Go.region rfl ?_
  refine GoOps.q (v := .int .i64 0) rfl rfl (by decide) (q_assign rfl) ?_
  refine GoOps.nil ?_
  refine Go.seq ?_
  refine Go.seq ?_
  refine Go.region rfl ?_
  refine GoOps.q (v := .pointer p0) rfl rfl (by decide) (q_move rfl) ?_
  refine GoOps.q (v := .bool (Option.isNone p0)) rfl rfl (by decide) (q_eqlPn Try.underlying28 rfl rfl) ?_
  refine GoOps.nil ?_
  rcases bor (Option.isNone p0) with hc1 | hc1
  · have h := h.1 hc1
    refine Go.condT (btT rfl hc1) ?_
    refine Go.seq ?_
    refine Go.region rfl ?_
    refine GoOps.q (v := .int .i64 0) rfl rfl (by decide) (q_assign rfl) ?_
    refine GoOps.nil ?_
    exact Go.ret ⟨.inl rfl, _, _, DOk.nil, (resOk1 Try.results23 rfl), ⟨_, rfl, h⟩⟩
  · have h := h.2 hc1
    refine Go.condF (btF rfl hc1) ?_
    refine Go.skip ?_
    refine Go.seq ?_
    refine Go.draw mixed ?_
    refine plan_pure (i := 0) (d := 5) (S2 := 1) (v := .pointer p0) rfl (by decide +kernel) rfl (q_move rfl) ?_
    refine plan_pure (i := 2) (d := 7) (S2 := 5) (v := .pointer p0) rfl (by decide +kernel) rfl (q_move rfl) ?_
    obtain ⟨a2, ha3, h⟩ := h
    refine plan_pure (i := 3) (d := 8) (S2 := 13) (v := .pointer (some a2)) rfl (by decide +kernel) rfl (q_nilCheck (ptn rfl ha3)) ?_
    refine plan_pure (i := 4) (d := 9) (S2 := 29) (v := .pointer (some (a2.add 0))) rfl (by decide +kernel) rfl (q_fieldAddr foff68_0 rfl) ?_
    refine plan_pure (i := 5) (d := 10) (S2 := 61) (v := .pointer (some ((a2.add 0).add 1))) rfl (by decide +kernel) rfl (q_fieldAddr foff26_1 rfl) ?_
    obtain ⟨x4, hx5, h⟩ := h
    refine plan_load (i := 6) (d := 11) (S2 := 125) (v := .int .i64 x4) rfl (by decide +kernel) rfl (q_load scalar3 rfl hx5) ?_
    refine plan_pure (i := 7) (d := 12) (S2 := 253) (v := .pointer p0) rfl (by decide +kernel) rfl (q_move rfl) ?_
    obtain ⟨a6, ha7, h⟩ := h
    refine plan_pure (i := 8) (d := 13) (S2 := 509) (v := .pointer (some a6)) rfl (by decide +kernel) rfl (q_nilCheck (ptn rfl ha7)) ?_
    refine plan_pure (i := 9) (d := 14) (S2 := 1021) (v := .pointer (some (a6.add 0))) rfl (by decide +kernel) rfl (q_fieldAddr foff68_0 rfl) ?_
    refine plan_pure (i := 10) (d := 15) (S2 := 2045) (v := .pointer (some ((a6.add 0).add 2))) rfl (by decide +kernel) rfl (q_fieldAddr foff26_2 rfl) ?_
    obtain ⟨x8, hx9, h⟩ := h
    refine plan_load (i := 11) (d := 16) (S2 := 4093) (v := .int .i64 x8) rfl (by decide +kernel) rfl (q_load scalar3 rfl hx9) ?_
    refine plan_pure (i := 12) (d := 17) (S2 := 8189) (v := .int .i64 (IntKind.wrap .i64 (x4 * x8))) rfl (by decide +kernel) rfl (q_mul rfl rfl) ?_
    refine plan_one (j := 1) (S2 := 8191) (by decide +kernel) rfl (by decide) rfl ?_
    refine do_call2 body44 (geom_Geom_segs_s _ _ _ h) rfl ?_
    rintro _ H10 ⟨y11, rfl, h⟩
    obtain ⟨hr12, h⟩ := h
    obtain ⟨hr13, h⟩ := h
    refine ⟨_, (.inr ⟨⟨_, _, rfl, rfl, q_load scalar3 rfl hr12⟩, _, rfl, .inr ⟨⟨_, _, rfl, rfl, q_load scalar3 rfl hr13⟩, _, rfl, rfl⟩⟩), ?_⟩
    refine plan_pure (i := 13) (d := 18) (S2 := 16383) (v := .int .i64 (IntKind.wrap .i64 (y11 + (IntKind.wrap .i64 (x4 * x8))))) rfl (by decide +kernel) rfl (q_add rfl rfl) ?_
    refine plan_pure (i := 14) (d := 2) (S2 := 32767) (v := .int .i64 (IntKind.wrap .i64 (y11 + (IntKind.wrap .i64 (x4 * x8))))) rfl (by decide +kernel) rfl (q_assign rfl) ?_
    refine plan_done (by decide +kernel) ?_
    exact Go.ret ⟨.inl rfl, _, _, DOk.nil, (resOk1 Try.results23 rfl), ⟨_, rfl, h⟩⟩

/-- (*keelson.geom.Geom).Where -/
def geom_Geom_Where (p0 : Option Addr) (p1 : Int) (H : PH) (Q : Int → Int → Bool → PH → Prop) : Prop :=
  mJoin (fun (s2 : Bool) (H4 : PH) =>
  mIf s2
  (Q 0 0 false H4)
  (geom_Geom_segs p0 H4 fun y8 H7 =>
  mNil p0 fun a9 =>
  mLd (.int .i64) H7 ((a9.add 0).add 2) fun x11 =>
  mNe x11 <|
  mNil p0 fun a14 =>
  mLd (.int .i64) H7 ((a14.add 0).add 2) fun x16 =>
  mNe x16 <|
  Q (IntKind.wrap .i64 (Int.tdiv (IntKind.wrap .i64 (p1 - y8)) x11)) (Int.tmod (IntKind.wrap .i64 (p1 - y8)) x16) true H7))
  fun j3 =>
  mIf (Option.isNone p0)
  (j3 true H)
  (geom_Geom_segs p0 H fun y20 H19 =>
  geom_Geom_Sectors p0 H19 fun y22 H21 =>
  geom_within p1 y20 (IntKind.wrap .i64 (y22 - 1)) H21 fun y24 H23 =>
  j3 (!y24) H23)

set_option maxRecDepth 20000 in
set_option maxHeartbeats 1000000 in
theorem geom_Geom_Where_s (p0 : Option Addr) (p1 : Int) (H : PH) (Q : Int → Int → Bool → PH → Prop) (h : geom_Geom_Where p0 p1 H Q) :
    CallsH Try.prog 42 #[.pointer p0, .int .i64 p1] H (fun v H' => ∃ (r0 : Int) (r1 : Int) (r2 : Bool), v = .tuple #[.int .i64 r0, .int .i64 r1, .bool r2] ∧ Q r0 r1 r2 H') := by
  unfold geom_Geom_Where at h
  refine callsH_of_go Try.func42 rfl Try.ntmps42 (Nat.le_of_ble_eq_true rfl) ?_
  refine Go.seq ?_
  refine Go.region rfl ?_
  refine GoOps.q (v := .int .i64 0) rfl rfl (by decide) (q_assign rfl) ?_
  refine GoOps.q (v := .int .i64 0) rfl rfl (by decide) (q_assign rfl) ?_
  refine GoOps.q (v := .bool false) rfl rfl (by decide) (q_assign rfl) ?_
  refine GoOps.nil ?_
  refine Go.seq ?_
  refine Go.seq ?_
  refine Go.region rfl ?_
  refine GoOps.q (v := .pointer p0) rfl rfl (by decide) (q_move rfl) ?_
  refine GoOps.q (v := .bool (Option.isNone p0)) rfl rfl (by decide) (q_eqlPn Try.underlying28 rfl rfl) ?_
  refine GoOps.q (v := .bool (Option.isNone p0)) rfl rfl (by decide) (q_move rfl) ?_
  refine join_ops 9 (fun ρ (s2 : Bool) => ρ 0 = .pointer p0 ∧ ρ 1 = .int .i64 p1 ∧ ρ 18 = .bool s2) h ?_ ?_ <;> clear h
  · intro s2 H4 ρ h hE
    obtain ⟨e5_0, e5_1, e5_18⟩ := hE
    refine GoOps.nil ?_
    rcases bor s2 with hc6 | hc6
    · have h := h.1 hc6
      refine Go.condT (btT e5_18 hc6) ?_
      refine Go.seq ?_
      refine Go.region rfl ?_
      refine GoOps.q (v := .int .i64 0) rfl rfl (by decide) (q_assign rfl) ?_
      refine GoOps.q (v := .int .i64 0) rfl rfl (by decide) (q_assign rfl) ?_
      refine GoOps.q (v := .bool false) rfl rfl (by decide) (q_assign rfl) ?_
      refine GoOps.nil ?_
      exact Go.ret ⟨.inl rfl, _, _, DOk.nil, (resOk3 Try.results42 rfl rfl rfl), ⟨_, _, _, rfl, h⟩⟩
    · have h := h.2 hc6
      refine Go.condF (btF e5_18 hc6) ?_
      refine Go.skip ?_
      refine Go.seq ?_
      refine Go.region rfl ?_
      refine GoOps.q (v := .int .i64 p1) rfl rfl (by decide) (q_move e5_1) ?_
      refine GoOps.q (v := .pointer p0) rfl rfl (by decide) (q_move e5_0) ?_
      refine call_dst rfl (by decide) body44 (geom_Geom_segs_s _ _ _ h) rfl ?_
      rintro _ H7 ⟨y8, rfl, h⟩
      refine GoOps.q (v := .int .i64 (IntKind.wrap .i64 (p1 - y8))) rfl rfl (by decide) (q_sub rfl rfl) ?_
      refine GoOps.q (v := .int .i64 (IntKind.wrap .i64 (p1 - y8))) rfl rfl (by decide) (q_assign rfl) ?_
      refine GoOps.nil ?_
      refine Go.seq ?_
      refine Go.draw mixed ?_
      refine plan_pure (i := 0) (d := 23) (S2 := 1) (v := .int .i64 (IntKind.wrap .i64 (p1 - y8))) rfl (by decide +kernel) rfl (q_move rfl) ?_
      refine plan_pure (i := 1) (d := 24) (S2 := 3) (v := .pointer p0) rfl (by decide +kernel) rfl (q_move e5_0) ?_
      obtain ⟨a9, ha10, h⟩ := h
      refine plan_pure (i := 2) (d := 25) (S2 := 7) (v := .pointer (some a9)) rfl (by decide +kernel) rfl (q_nilCheck (ptn rfl ha10)) ?_
      refine plan_pure (i := 3) (d := 26) (S2 := 15) (v := .pointer (some (a9.add 0))) rfl (by decide +kernel) rfl (q_fieldAddr foff68_0 rfl) ?_
      refine plan_pure (i := 4) (d := 27) (S2 := 31) (v := .pointer (some ((a9.add 0).add 2))) rfl (by decide +kernel) rfl (q_fieldAddr foff26_2 rfl) ?_
      obtain ⟨x11, hx12, h⟩ := h
      refine plan_load (i := 5) (d := 28) (S2 := 63) (v := .int .i64 x11) rfl (by decide +kernel) rfl (q_load scalar3 rfl hx12) ?_
      obtain ⟨hn13, h⟩ := h
      refine plan_pure (i := 6) (d := 29) (S2 := 127) (v := .int .i64 (IntKind.wrap .i64 (Int.tdiv (IntKind.wrap .i64 (p1 - y8)) x11))) rfl (by decide +kernel) rfl (q_quo hn13 rfl rfl) ?_
      refine plan_pure (i := 7) (d := 30) (S2 := 255) (v := .int .i64 (IntKind.wrap .i64 (p1 - y8))) rfl (by decide +kernel) rfl (q_move rfl) ?_
      refine plan_pure (i := 8) (d := 31) (S2 := 511) (v := .pointer p0) rfl (by decide +kernel) rfl (q_move e5_0) ?_
      obtain ⟨a14, ha15, h⟩ := h
      refine plan_pure (i := 9) (d := 32) (S2 := 1023) (v := .pointer (some a14)) rfl (by decide +kernel) rfl (q_nilCheck (ptn rfl ha15)) ?_
      refine plan_pure (i := 10) (d := 33) (S2 := 2047) (v := .pointer (some (a14.add 0))) rfl (by decide +kernel) rfl (q_fieldAddr foff68_0 rfl) ?_
      refine plan_pure (i := 11) (d := 34) (S2 := 4095) (v := .pointer (some ((a14.add 0).add 2))) rfl (by decide +kernel) rfl (q_fieldAddr foff26_2 rfl) ?_
      obtain ⟨x16, hx17, h⟩ := h
      refine plan_load (i := 12) (d := 35) (S2 := 8191) (v := .int .i64 x16) rfl (by decide +kernel) rfl (q_load scalar3 rfl hx17) ?_
      obtain ⟨hn18, h⟩ := h
      refine plan_pure (i := 13) (d := 36) (S2 := 16383) (v := .int .i64 (Int.tmod (IntKind.wrap .i64 (p1 - y8)) x16)) rfl (by decide +kernel) rfl (q_rem hn18 rfl rfl) ?_
      refine plan_pure (i := 14) (d := 4) (S2 := 32767) (v := .int .i64 (IntKind.wrap .i64 (Int.tdiv (IntKind.wrap .i64 (p1 - y8)) x11))) rfl (by decide +kernel) rfl (q_assign rfl) ?_
      refine plan_pure (i := 15) (d := 5) (S2 := 65535) (v := .int .i64 (Int.tmod (IntKind.wrap .i64 (p1 - y8)) x16)) rfl (by decide +kernel) rfl (q_assign rfl) ?_
      refine plan_pure (i := 16) (d := 6) (S2 := 131071) (v := .bool true) rfl (by decide +kernel) rfl (q_assign rfl) ?_
      refine plan_done (by decide +kernel) ?_
      exact Go.ret ⟨.inl rfl, _, _, DOk.nil, (resOk3 Try.results42 rfl rfl rfl), ⟨_, _, _, rfl, h⟩⟩
  · intro j3 hj3 h
    rcases bor (Option.isNone p0) with hc1 | hc1
    · have h := h.1 hc1
      refine no_dst (want_no rfl rfl rfl hc1) rfl (by decide) ?_
      refine no_dst (want_no rfl rfl rfl hc1) rfl (by decide) ?_
      refine no_dst (want_no rfl rfl rfl hc1) rfl (by decide) ?_
      refine no_dst (want_no rfl rfl rfl hc1) rfl (by decide) ?_
      refine no_dst (want_no rfl rfl rfl hc1) rfl (by decide) ?_
      refine no_dst (want_no rfl rfl rfl hc1) rfl (by decide) ?_
      refine no_dst (want_no rfl rfl rfl hc1) rfl (by decide) ?_
      refine no_dst (want_no rfl rfl rfl hc1) rfl (by decide) ?_
      refine GoOps.q (v := .bool true) rfl rfl (by decide) (q_pickT (btT rfl hc1) rfl) ?_
      exact hj3 true _ _ h (by exact ⟨rfl, rfl, rfl⟩)
    · have h := h.2 hc1
      refine GoOps.q (v := .int .i64 p1) (want_yes rfl rfl rfl hc1) rfl (by decide) (q_move rfl) ?_
      refine GoOps.q (v := .pointer p0) (want_yes rfl rfl rfl hc1) rfl (by decide) (q_move rfl) ?_
      refine call_dst (want_yes rfl rfl rfl hc1) (by decide) body44 (geom_Geom_segs_s _ _ _ h) rfl ?_
      rintro _ H19 ⟨y20, rfl, h⟩
      refine GoOps.q (v := .pointer p0) (want_yes rfl rfl rfl hc1) rfl (by decide) (q_move rfl) ?_
      refine call_dst (want_yes rfl rfl rfl hc1) (by decide) body23 (geom_Geom_Sectors_s _ _ _ h) rfl ?_
      rintro _ H21 ⟨y22, rfl, h⟩
      refine GoOps.q (v := .int .i64 (IntKind.wrap .i64 (y22 - 1))) (want_yes rfl rfl rfl hc1) rfl (by decide) (q_sub rfl rfl) ?_
      refine call_dst (want_yes rfl rfl rfl hc1) (by decide) body36 (geom_within_s _ _ _ _ _ h) rfl ?_
      rintro _ H23 ⟨y24, rfl, h⟩
      refine GoOps.q (v := .bool (!y24)) (want_yes rfl rfl rfl hc1) rfl (by decide) (q_not rfl) ?_
      refine GoOps.q (v := .bool (!y24)) rfl rfl (by decide) (q_pickF (btF rfl hc1) rfl) ?_
      exact hj3 (!y24) _ _ h (by exact ⟨rfl, rfl, rfl⟩)

/-- (*keelson.usage.Table).Add -/
def usage_Table_Add (p0 : Option Addr) (p1 : Int) (p2 : Int) (H : PH) (Q : Bool → PH → Prop) : Prop :=
  mIf (Option.isNone p0)
  (Q false H)
  (mNil p0 fun a2 =>
  mLd .pointer H (a2.add 0) fun x4 =>
  geom_Geom_Where x4 p1 H fun y7 y8 y9 H6 =>
  mJoin (fun (s10 : Unit) (H12 : PH) =>
  Q y9 H12)
  fun j11 =>
  mIf (!y9)
  (j11 () H6)
  (mNil p0 fun a15 =>
  mLd Sl.v H6 (a15.add 2) fun x17 =>
  mIdx x17 1 y7 fun a19 =>
  mLd (.int .i64) H6 a19 fun x21 =>
  mIf (decide ((IntKind.wrap .i64 (2147483647 - x21)) < p2))
  (mNil p0 fun a24 =>
  mLd Sl.v H6 (a24.add 2) fun x26 =>
  mIdx x26 1 y7 fun a28 =>
  mSt H6 a28 ([.int .i64 2147483647]) fun H30 =>
  j11 () H30)
  (mNil p0 fun a32 =>
  mLd Sl.v H6 (a32.add 2) fun x34 =>
  mNil p0 fun a36 =>
  mLd Sl.v H6 (a36.add 2) fun x38 =>
  mIdx x38 1 y7 fun a40 =>
  mLd (.int .i64) H6 a40 fun x42 =>
  mIdx x34 1 y7 fun a44 =>
  mSt H6 a44 ([.int .i64 (if (IntKind.wrap .i64 (x42 + p2)) < 0 then 0 else (IntKind.wrap .i64 (x42 + p2)))]) fun H46 =>
  j11 () H46)))

set_option maxRecDepth 20000 in
set_option maxHeartbeats 1000000 in
theorem usage_Table_Add_s (p0 : Option Addr) (p1 : Int) (p2 : Int) (H : PH) (Q : Bool → PH → Prop) (h : usage_Table_Add p0 p1 p2 H Q) :
    CallsH Try.prog 18 #[.pointer p0, .int .i64 p1, .int .i64 p2] H (fun v H' => ∃ (r0 : Bool), v = .bool r0 ∧ Q r0 H') := by
  unfold usage_Table_Add at h
  refine callsH_of_go Try.func18 rfl Try.ntmps18 (Nat.le_of_ble_eq_true rfl) ?_
  refine Go.seq ?_
  refine Go.region rfl ?_
  refine GoOps.q (v := .bool false) rfl rfl (by decide) (q_assign rfl) ?_
  refine GoOps.nil ?_
  refine Go.seq ?_
  refine Go.seq ?_
  refine Go.region rfl ?_
  refine GoOps.q (v := .pointer p0) rfl rfl (by decide) (q_move rfl) ?_
  refine GoOps.q (v := .bool (Option.isNone p0)) rfl rfl (by decide) (q_eqlPn Try.underlying32 rfl rfl) ?_
  refine GoOps.nil ?_
  rcases bor (Option.isNone p0) with hc1 | hc1
  · have h := h.1 hc1
    refine Go.condT (btT rfl hc1) ?_
    refine Go.seq ?_
    refine Go.region rfl ?_
    refine GoOps.q (v := .bool false) rfl rfl (by decide) (q_assign rfl) ?_
    refine GoOps.nil ?_
    exact Go.ret ⟨.inl rfl, _, _, DOk.nil, (resOk1 Try.results18 rfl), ⟨_, rfl, h⟩⟩
  · have h := h.2 hc1
    refine Go.condF (btF rfl hc1) ?_
    refine Go.skip ?_
    refine Go.seq ?_
    refine Go.region rfl ?_
    refine GoOps.q (v := .pointer p0) rfl rfl (by decide) (q_move rfl) ?_
    obtain ⟨a2, ha3, h⟩ := h
    refine GoOps.q (v := .pointer (some a2)) rfl rfl (by decide) (q_nilCheck (ptn rfl ha3)) ?_
    refine GoOps.q (v := .pointer (some (a2.add 0))) rfl rfl (by decide) (q_fieldAddr foff71_0 rfl) ?_
    obtain ⟨x4, hx5, h⟩ := h
    refine GoOps.q (v := .pointer x4) rfl rfl (by decide) (q_load scalar28 rfl hx5) ?_
    refine GoOps.q (v := .int .i64 p1) rfl rfl (by decide) (q_move rfl) ?_
    refine call_dst rfl (by decide) body42 (geom_Geom_Where_s _ _ _ _ h) rfl ?_
    rintro _ H6 ⟨y7, y8, y9, rfl, h⟩
    refine GoOps.q (v := .tuple #[.int .i64 y7, .int .i64 y8, .bool y9]) rfl rfl (by decide) (q_move rfl) ?_
    refine GoOps.q (v := .int .i64 y7) rfl rfl (by decide) (q_extract rfl rfl) ?_
    refine GoOps.q (v := .int .i64 y8) rfl rfl (by decide) (q_extract rfl rfl) ?_
    refine GoOps.q (v := .bool y9) rfl rfl (by decide) (q_extract rfl rfl) ?_
    refine GoOps.q (v := .int .i64 y7) rfl rfl (by decide) (q_assign rfl) ?_
    refine GoOps.q (v := .int .i64 y8) rfl rfl (by decide) (q_assign rfl) ?_
    refine GoOps.q (v := .bool y9) rfl rfl (by decide) (q_assign rfl) ?_
    refine GoOps.nil ?_
    refine Go.seq ?_
    refine join_go 1 (fun ρ (s10 : Unit) => ρ 9 = .bool y9) h ?_ ?_ <;> clear h
    · intro s10 H12 ρ h hE
      have e13_9 := hE
      refine Go.seq ?_
      refine Go.region rfl ?_
      refine GoOps.q (v := .bool y9) rfl rfl (by decide) (q_move e13_9) ?_
      refine GoOps.q (v := .bool y9) rfl rfl (by decide) (q_assign rfl) ?_
      refine GoOps.nil ?_
      exact Go.ret ⟨.inl rfl, _, _, DOk.nil, (resOk1 Try.results18 rfl), ⟨_, rfl, h⟩⟩
    · intro j11 hj11 h
      refine Go.block ?_
      refine Go.seq ?_
      refine Go.region rfl ?_
      refine GoOps.q (v := .bool y9) rfl rfl (by decide) (q_move rfl) ?_
      refine GoOps.q (v := .bool (!y9)) rfl rfl (by decide) (q_not rfl) ?_
      refine GoOps.q (v := .bool (!y9)) rfl rfl (by decide) (q_assign rfl) ?_
      refine GoOps.nil ?_
      rcases bor (!y9) with hc14 | hc14
      · have h := h.1 hc14
        refine Go.condT (btT rfl hc14) ?_
        refine Go.skip ?_
        refine Go.inBlock ?_
        exact hj11 _ _ _ h rfl
      · have h := h.2 hc14
        refine Go.condF (btF rfl hc14) ?_
        refine Go.seq ?_
        refine Go.region rfl ?_
        refine GoOps.q (v := .int .i64 p2) rfl rfl (by decide) (q_move rfl) ?_
        refine GoOps.q (v := .pointer p0) rfl rfl (by decide) (q_move rfl) ?_
        obtain ⟨a15, ha16, h⟩ := h
        refine GoOps.q (v := .pointer (some a15)) rfl rfl (by decide) (q_nilCheck (ptn rfl ha16)) ?_
        refine GoOps.q (v := .pointer (some (a15.add 2))) rfl rfl (by decide) (q_fieldAddr foff71_2 rfl) ?_
        obtain ⟨x17, hx18, h⟩ := h
        refine GoOps.q (v := Sl.v x17) rfl rfl (by decide) (q_load scalar23 rfl hx18) ?_
        refine GoOps.q (v := .int .i64 y7) rfl rfl (by decide) (q_move rfl) ?_
        obtain ⟨a19, ha20, h⟩ := h
        refine GoOps.q (v := .pointer (some a19)) rfl rfl (by decide) (q_idx slice23 ha20 rfl rfl) ?_
        obtain ⟨x21, hx22, h⟩ := h
        refine GoOps.q (v := .int .i64 x21) rfl rfl (by decide) (q_load scalar3 rfl hx22) ?_
        refine GoOps.q (v := .int .i64 (IntKind.wrap .i64 (2147483647 - x21))) rfl rfl (by decide) (q_sub rfl rfl) ?_
        refine GoOps.q (v := .bool (decide ((IntKind.wrap .i64 (2147483647 - x21)) < p2))) rfl rfl (by decide) (q_gtr rfl rfl) ?_
        refine GoOps.q (v := .bool (decide ((IntKind.wrap .i64 (2147483647 - x21)) < p2))) rfl rfl (by decide) (q_assign rfl) ?_
        refine GoOps.nil ?_
        rcases bor (decide ((IntKind.wrap .i64 (2147483647 - x21)) < p2)) with hc23 | hc23
        · have h := h.1 hc23
          refine Go.condT (btT rfl hc23) ?_
          refine Go.region rfl ?_
          refine GoOps.q (v := .pointer p0) rfl rfl (by decide) (q_move rfl) ?_
          obtain ⟨a24, ha25, h⟩ := h
          refine GoOps.q (v := .pointer (some a24)) rfl rfl (by decide) (q_nilCheck (ptn rfl ha25)) ?_
          refine GoOps.q (v := .pointer (some (a24.add 2))) rfl rfl (by decide) (q_fieldAddr foff71_2 rfl) ?_
          obtain ⟨x26, hx27, h⟩ := h
          refine GoOps.q (v := Sl.v x26) rfl rfl (by decide) (q_load scalar23 rfl hx27) ?_
          refine GoOps.q (v := .int .i64 y7) rfl rfl (by decide) (q_move rfl) ?_
          obtain ⟨a28, ha29, h⟩ := h
          refine GoOps.q (v := .pointer (some a28)) rfl rfl (by decide) (q_idx slice23 ha29 rfl rfl) ?_
          obtain ⟨q31b, q31o, q31c, q31e, hq31a, hq31b, hq31l, hq31v, h⟩ := h
          refine op_none rfl rfl (do_store (vs := [.int .i64 2147483647]) size3 (pta rfl hq31a) rfl rfl rfl hq31v hq31b hq31l ?_) 
          refine GoOps.nil ?_
          refine Go.inBlock ?_
          exact hj11 _ _ _ h rfl
        · have h := h.2 hc23
          refine Go.condF (btF rfl hc23) ?_
          refine Go.draw mixed ?_
          refine plan_pure (i := 0) (d := 22) (S2 := 1) (v := .pointer p0) rfl (by decide +kernel) rfl (q_move rfl) ?_
          obtain ⟨a32, ha33, h⟩ := h
          refine plan_pure (i := 1) (d := 23) (S2 := 3) (v := .pointer (some a32)) rfl (by decide +kernel) rfl (q_nilCheck (ptn rfl ha33)) ?_
          refine plan_pure (i := 2) (d := 24) (S2 := 7) (v := .pointer (some (a32.add 2))) rfl (by decide +kernel) rfl (q_fieldAddr foff71_2 rfl) ?_
          obtain ⟨x34, hx35, h⟩ := h
          refine plan_load (i := 3) (d := 25) (S2 := 15) (v := Sl.v x34) rfl (by decide +kernel) rfl (q_load scalar23 rfl hx35) ?_
          refine plan_pure (i := 4) (d := 26) (S2 := 31) (v := .int .i64 y7) rfl (by decide +kernel) rfl (q_move rfl) ?_
          refine plan_pure (i := 5) (d := 27) (S2 := 63) (v := .pointer p0) rfl (by decide +kernel) rfl (q_move rfl) ?_
          obtain ⟨a36, ha37, h⟩ := h
          refine plan_pure (i := 6) (d := 28) (S2 := 127) (v := .pointer (some a36)) rfl (by decide +kernel) rfl (q_nilCheck (ptn rfl ha37)) ?_
          refine plan_pure (i := 7) (d := 29) (S2 := 255) (v := .pointer (some (a36.add 2))) rfl (by decide +kernel) rfl (q_fieldAddr foff71_2 rfl) ?_
          obtain ⟨x38, hx39, h⟩ := h
          refine plan_load (i := 8) (d := 30) (S2 := 511) (v := Sl.v x38) rfl (by decide +kernel) rfl (q_load scalar23 rfl hx39) ?_
          refine plan_pure (i := 9) (d := 31) (S2 := 1023) (v := .int .i64 y7) rfl (by decide +kernel) rfl (q_move rfl) ?_
          obtain ⟨a40, ha41, h⟩ := h
          refine plan_pure (i := 10) (d := 32) (S2 := 2047) (v := .pointer (some a40)) rfl (by decide +kernel) rfl (q_idx slice23 ha41 rfl rfl) ?_
          obtain ⟨x42, hx43, h⟩ := h
          refine plan_load (i := 11) (d := 33) (S2 := 4095) (v := .int .i64 x42) rfl (by decide +kernel) rfl (q_load scalar3 rfl hx43) ?_
          refine plan_pure (i := 12) (d := 34) (S2 := 8191) (v := .int .i64 p2) rfl (by decide +kernel) rfl (q_move rfl) ?_
          refine plan_pure (i := 13) (d := 35) (S2 := 16383) (v := .int .i64 (IntKind.wrap .i64 (x42 + p2))) rfl (by decide +kernel) rfl (q_add rfl rfl) ?_
          refine plan_pure (i := 14) (d := 36) (S2 := 32767) (v := .int .i64 (if (IntKind.wrap .i64 (x42 + p2)) < 0 then 0 else (IntKind.wrap .i64 (x42 + p2)))) rfl (by decide +kernel) rfl (q_max2 rfl) ?_
          obtain ⟨a44, ha45, h⟩ := h
          refine plan_pure (i := 15) (d := 37) (S2 := 65535) (v := .pointer (some a44)) rfl (by decide +kernel) rfl (q_idx slice23 ha45 rfl rfl) ?_
          refine plan_one (j := 16) (S2 := 131071) (by decide +kernel) rfl (by decide) rfl ?_
          obtain ⟨q47b, q47o, q47c, q47e, hq47a, hq47b, hq47l, hq47v, h⟩ := h
          refine do_store (vs := [.int .i64 (if (IntKind.wrap .i64 (x42 + p2)) < 0 then 0 else (IntKind.wrap .i64 (x42 + p2)))]) size3 (pta rfl hq47a) rfl rfl rfl hq47v hq47b hq47l ?_
          refine ⟨_, (.inl ⟨⟨[16], by decide +kernel, rfl⟩, .inl ⟨⟨[16], by decide +kernel, rfl⟩, .inl ⟨⟨[16], by decide +kernel, rfl⟩, rfl⟩⟩⟩), ?_⟩
          refine plan_done (by decide +kernel) ?_
          refine Go.inBlock ?_
          exact hj11 _ _ _ h rfl

/-- (*keelson.usage.Table).idle -/
def usage_Table_idle (p0 : Option Addr) (p1 : Int) (H : PH) (Q : Bool → PH → Prop) : Prop :=
  mNil p0 fun a1 =>
  mLd Sl.v H (a1.add 1) fun x3 =>
  mIdx x3 2 p1 fun a5 =>
  mLd (.int .i64) H (a5.add 0) fun x7 =>
  mJoin (fun (s10 : Bool) (H12 : PH) =>
  Q s10 H12)
  fun j11 =>
  mIf (x7 == 2)
  (mNil p0 fun a14 =>
  mLd Sl.v H (a14.add 2) fun x16 =>
  mIdx x16 1 p1 fun a18 =>
  mLd (.int .i64) H a18 fun x20 =>
  j11 (x20 == 0) H)
  (j11 false H)

set_option maxRecDepth 20000 in
set_option maxHeartbeats 1000000 in
theorem usage_Table_idle_s (p0 : Option Addr) (p1 : Int) (H : PH) (Q : Bool → PH → Prop) (h : usage_Table_idle p0 p1 H Q) :
    CallsH Try.prog 45 #[.pointer p0, .int .i64 p1] H (fun v H' => ∃ (r0 : Bool), v = .bool r0 ∧ Q r0 H') := by
  unfold usage_Table_idle at h
  refine callsH_of_go Try.func45 rfl Try.ntmps45 (Nat.le_of_ble_eq_true rfl) ?_
  refine Go.seq ?_
  refine Go.region rfl ?_
  refine GoOps.q (v := .bool false) rfl rfl (by decide) (q_assign rfl) ?_
  refine GoOps.nil ?_
  refine Go.seq ?_
  refine Go.region rfl ?_
  refine GoOps.q (v := .pointer p0) rfl rfl (by decide) (q_move rfl) ?_
  obtain ⟨a1, ha2, h⟩ := h
  refine GoOps.q (v := .pointer (some a1)) rfl rfl (by decide) (q_nilCheck (ptn rfl ha2)) ?_
  refine GoOps.q (v := .pointer (some (a1.add 1))) rfl rfl (by decide) (q_fieldAddr foff71_1 rfl) ?_
  obtain ⟨x3, hx4, h⟩ := h
  refine GoOps.q (v := Sl.v x3) rfl rfl (by decide) (q_load scalar50 rfl hx4) ?_
  refine GoOps.q (v := .int .i64 p1) rfl rfl (by decide) (q_move rfl) ?_
  obtain ⟨a5, ha6, h⟩ := h
  refine GoOps.q (v := .pointer (some a5)) rfl rfl (by decide) (q_idx slice50 ha6 rfl rfl) ?_
  refine GoOps.q (v := .pointer (some (a5.add 0))) rfl rfl (by decide) (q_fieldAddr foff52_0 rfl) ?_
  obtain ⟨x7, hx8, h⟩ := h
  refine GoOps.q (v := .int .i64 x7) rfl rfl (by decide) (q_load scalar3 rfl hx8) ?_
  refine GoOps.q (v := .bool (x7 == 2)) rfl rfl (by decide) (q_eql rfl rfl) ?_
  refine GoOps.q (v := .bool (x7 == 2)) rfl rfl (by decide) (q_move rfl) ?_
  refine join_ops 9 (fun ρ (s10 : Bool) => ρ 23 = .bool s10) h ?_ ?_ <;> clear h
  · intro s10 H12 ρ h hE
    have e13_23 := hE
    refine GoOps.q (v := .bool s10) rfl rfl (by decide) (q_assign e13_23) ?_
    refine GoOps.nil ?_
    exact Go.ret ⟨.inl rfl, _, _, DOk.nil, (resOk1 Try.results45 rfl), ⟨_, rfl, h⟩⟩
  · intro j11 hj11 h
    rcases bor (x7 == 2) with hc9 | hc9
    · have h := h.1 hc9
      refine GoOps.q (v := .pointer p0) (want_yes rfl rfl rfl hc9) rfl (by decide) (q_move rfl) ?_
      obtain ⟨a14, ha15, h⟩ := h
      refine GoOps.q (v := .pointer (some a14)) (want_yes rfl rfl rfl hc9) rfl (by decide) (q_nilCheck (ptn rfl ha15)) ?_
      refine GoOps.q (v := .pointer (some (a14.add 2))) (want_yes rfl rfl rfl hc9) rfl (by decide) (q_fieldAddr foff71_2 rfl) ?_
      obtain ⟨x16, hx17, h⟩ := h
      refine GoOps.q (v := Sl.v x16) (want_yes rfl rfl rfl hc9) rfl (by decide) (q_load scalar23 rfl hx17) ?_
      refine GoOps.q (v := .int .i64 p1) (want_yes rfl rfl rfl hc9) rfl (by decide) (q_move rfl) ?_
      obtain ⟨a18, ha19, h⟩ := h
      refine GoOps.q (v := .pointer (some a18)) (want_yes rfl rfl rfl hc9) rfl (by decide) (q_idx slice23 ha19 rfl rfl) ?_
      obtain ⟨x20, hx21, h⟩ := h
      refine GoOps.q (v := .int .i64 x20) (want_yes rfl rfl rfl hc9) rfl (by decide) (q_load scalar3 rfl hx21) ?_
      refine GoOps.q (v := .bool (x20 == 0)) (want_yes rfl rfl rfl hc9) rfl (by decide) (q_eql rfl rfl) ?_
      refine GoOps.q (v := .bool (x20 == 0)) rfl rfl (by decide) (q_pickT (btT rfl hc9) rfl) ?_
      exact hj11 (x20 == 0) _ _ h (by exact rfl)
    · have h := h.2 hc9
      refine no_dst (want_no rfl rfl rfl hc9) rfl (by decide) ?_
      refine no_dst (want_no rfl rfl rfl hc9) rfl (by decide) ?_
      refine no_dst (want_no rfl rfl rfl hc9) rfl (by decide) ?_
      refine no_dst (want_no rfl rfl rfl hc9) rfl (by decide) ?_
      refine no_dst (want_no rfl rfl rfl hc9) rfl (by decide) ?_
      refine no_dst (want_no rfl rfl rfl hc9) rfl (by decide) ?_
      refine no_dst (want_no rfl rfl rfl hc9) rfl (by decide) ?_
      refine no_dst (want_no rfl rfl rfl hc9) rfl (by decide) ?_
      refine GoOps.q (v := .bool false) rfl rfl (by decide) (q_pickF (btF rfl hc9) rfl) ?_
      exact hj11 false _ _ h (by exact rfl)

/-- (*keelson.usage.Table).Release -/
def usage_Table_Release (p0 : Option Addr) (H : PH) (Q : Sl → PH → Prop) : Prop :=
  mIf (Option.isNone p0)
  (Q Sl.nil H)
  (mNil p0 fun a2 =>
  mLd Sl.v H (a2.add 1) fun x4 =>
  mLoop (fun (s6 : Sl × Int) (H9 : PH) (again7 : (Sl × Int) → PH → Prop) =>
  mIf (decide (s6.2 < (x4.len : Int)))
  (mJoin (fun (s11 : Sl) (H13 : PH) =>
  again7 (s11, IntKind.wrap .i64 (s6.2 + 1)) H13)
  fun j12 =>
  usage_Table_idle p0 s6.2 H9 fun y16 H15 =>
  mIf y16
  (mNil p0 fun a18 =>
  mLd Sl.v H15 (a18.add 1) fun x20 =>
  mIdx x20 2 s6.2 fun a22 =>
  mSt H15 (a22.add 0) ([.int .i64 0]) fun H24 =>
  mNewS H24 (row [.int .i64 s6.2] 3) 1 fun r26 H27 =>
  mApp H27 3 1 8 [.int .i64 0] s6.1 r26 fun r29 H30 =>
  j12 r29 H30)
  (j12 s6.1 H15))
  (Q s6.1 H9))
  (Sl.nil, 0) H)

set_option maxRecDepth 20000 in
set_option maxHeartbeats 1000000 in
theorem usage_Table_Release_s (p0 : Option Addr) (H : PH) (Q : Sl → PH → Prop) (h : usage_Table_Release p0 H Q) :
    CallsH Try.prog 21 #[.pointer p0] H (fun v H' => ∃ (r0 : Sl), v = Sl.v r0 ∧ Q r0 H') := by
  unfold usage_Table_Release at h
  refine callsH_of_go Try.func21 rfl Try.ntmps21 (Nat.le_of_ble_eq_true rfl) ?_
  refine Go.seq ?_
  refine Go.region rfl ?_
  refine GoOps.q (v := Sl.v Sl.nil) rfl rfl (by decide) (q_assign rfl) ?_
  refine GoOps.nil ?_
  refine Go.seq ?_
  refine Go.seq ?_
  refine Go.region rfl ?_
  refine GoOps.q (v := .pointer p0) rfl rfl (by decide) (q_move rfl) ?_
  refine GoOps.q (v := .bool (Option.isNone p0)) rfl rfl (by decide) (q_eqlPn Try.underlying32 rfl rfl) ?_
  refine GoOps.nil ?_
  rcases bor (Option.isNone p0) with hc1 | hc1
  · have h := h.1 hc1
    refine Go.condT (btT rfl hc1) ?_
    refine Go.seq ?_
    refine Go.region rfl ?_
    refine GoOps.q (v := Sl.v Sl.nil) rfl rfl (by decide) (q_assign rfl) ?_
    refine GoOps.nil ?_
    exact Go.ret ⟨.inl rfl, _, _, DOk.nil, (resOk1 Try.results21 rfl), ⟨_, rfl, h⟩⟩
  · have h := h.2 hc1
    refine Go.condF (btF rfl hc1) ?_
    refine Go.skip ?_
    refine Go.seq ?_
    refine Go.seq ?_
    refine Go.region rfl ?_
    refine GoOps.q (v := .pointer p0) rfl rfl (by decide) (q_move rfl) ?_
    obtain ⟨a2, ha3, h⟩ := h
    refine GoOps.q (v := .pointer (some a2)) rfl rfl (by decide) (q_nilCheck (ptn rfl ha3)) ?_
    refine GoOps.q (v := .pointer (some (a2.add 1))) rfl rfl (by decide) (q_fieldAddr foff71_1 rfl) ?_
    obtain ⟨x4, hx5, h⟩ := h
    refine GoOps.q (v := Sl.v x4) rfl rfl (by decide) (q_load scalar50 rfl hx5) ?_
    refine GoOps.q (v := .int .i64 (x4.len : Int)) rfl rfl (by decide) (q_len Try.underlying50 rfl (ls1 rfl)) ?_
    refine GoOps.q (v := .int .i64 0) rfl rfl (by decide) (q_move rfl) ?_
    refine GoOps.nil ?_
    refine Go.block ?_
    refine loop_go (fun ρ (s6 : Sl × Int) => ρ 0 = .pointer p0 ∧ ρ 2 = Sl.v s6.1 ∧ ρ 10 = .int .i64 (x4.len : Int) ∧ ρ 11 = .int .i64 s6.2) h ⟨rfl, rfl, rfl, rfl⟩ ?_
    clear h
    intro ρ s6 H9 again7 hE h hagain7
    obtain ⟨e8_0, e8_2, e8_10, e8_11⟩ := hE
    refine Go.seq ?_
    refine Go.region rfl ?_
    refine GoOps.q (v := .bool (decide (s6.2 < (x4.len : Int)))) rfl rfl (by decide) (q_lss e8_11 e8_10) ?_
    refine GoOps.nil ?_
    refine Go.seq ?_
    rcases bor (decide (s6.2 < (x4.len : Int))) with hc10 | hc10
    · have h := h.1 hc10
      refine Go.condT (btT rfl hc10) ?_
      refine Go.skip ?_
      refine Go.seq ?_
      refine join_go 1 (fun ρ (s11 : Sl) => ρ 0 = .pointer p0 ∧ ρ 2 = Sl.v s11 ∧ ρ 10 = .int .i64 (x4.len : Int) ∧ ρ 11 = .int .i64 s6.2) h ?_ ?_ <;> clear h
      · intro s11 H13 ρ h hE
        obtain ⟨e14_0, e14_2, e14_10, e14_11⟩ := hE
        refine Go.region rfl ?_
        refine GoOps.q (v := .int .i64 (IntKind.wrap .i64 (s6.2 + 1))) rfl rfl (by decide) (q_add e14_11 rfl) ?_
        refine GoOps.q (v := .int .i64 (IntKind.wrap .i64 (s6.2 + 1))) rfl rfl (by decide) (q_move rfl) ?_
        refine GoOps.nil ?_
        exact hagain7 _ _ _ h ⟨e14_0, e14_2, e14_10, rfl⟩
      · intro j12 hj12 h
        refine Go.block ?_
        refine Go.seq ?_
        refine Go.region rfl ?_
        refine GoOps.q (v := .int .i64 s6.2) rfl rfl (by decide) (q_move e8_11) ?_
        refine GoOps.q (v := .int .i64 s6.2) rfl rfl (by decide) (q_assign rfl) ?_
        refine GoOps.nil ?_
        refine Go.seq ?_
        refine Go.region rfl ?_
        refine GoOps.q (v := .pointer p0) rfl rfl (by decide) (q_move e8_0) ?_
        refine GoOps.q (v := .int .i64 s6.2) rfl rfl (by decide) (q_move rfl) ?_
        refine call_dst rfl (by decide) body45 (usage_Table_idle_s _ _ _ _ h) rfl ?_
        rintro _ H15 ⟨y16, rfl, h⟩
        refine GoOps.nil ?_
        rcases bor y16 with hc17 | hc17
        · have h := h.1 hc17
          refine Go.condT (btT rfl hc17) ?_
          refine Go.seq ?_
          refine Go.region rfl ?_
          refine GoOps.q (v := .pointer p0) rfl rfl (by decide) (q_move e8_0) ?_
          obtain ⟨a18, ha19, h⟩ := h
          refine GoOps.q (v := .pointer (some a18)) rfl rfl (by decide) (q_nilCheck (ptn rfl ha19)) ?_
          refine GoOps.q (v := .pointer (some (a18.add 1))) rfl rfl (by decide) (q_fieldAddr foff71_1 rfl) ?_
          obtain ⟨x20, hx21, h⟩ := h
          refine GoOps.q (v := Sl.v x20) rfl rfl (by decide) (q_load scalar50 rfl hx21) ?_
          refine GoOps.q (v := .int .i64 s6.2) rfl rfl (by decide) (q_move rfl) ?_
          obtain ⟨a22, ha23, h⟩ := h
          refine GoOps.q (v := .pointer (some a22)) rfl rfl (by decide) (q_idx slice50 ha23 rfl rfl) ?_
          refine GoOps.q (v := .pointer (some (a22.add 0))) rfl rfl (by decide) (q_fieldAddr foff52_0 rfl) ?_
          obtain ⟨q25b, q25o, q25c, q25e, hq25a, hq25b, hq25l, hq25v, h⟩ := h
          refine op_none rfl rfl (do_store (vs := [.int .i64 0]) size3 (pta rfl hq25a) rfl rfl rfl hq25v hq25b hq25l ?_) 
          refine GoOps.nil ?_
          refine Go.region rfl ?_
          refine GoOps.q (v := Sl.v s6.1) rfl rfl (by decide) (q_move e8_2) ?_
          refine GoOps.q (v := .int .i64 s6.2) rfl rfl (by decide) (q_move rfl) ?_
          refine op_dst rfl rfl (by decide) (do_bs (ps := [(0, .int .i64 s6.2)]) (zs := [.int .i64 0]) (cs := [.int .i64 s6.2]) slice23 zero3 rfl rfl (by decide) (by decide) rfl rfl fun r26 H27 hb28 => ?_) 
          have h := h r26 H27 hb28
          refine op_dst rfl rfl (by decide) (do_append (zs := [.int .i64 0]) slice23 bytes3 (by decide) zero3 rfl rfl (by decide) rfl rfl Try.underlying23 rfl h fun r29 H30 h => ?_) 
          refine GoOps.q (v := Sl.v r29) rfl rfl (by decide) (q_assign rfl) ?_
          refine GoOps.nil ?_
          refine Go.inBlock ?_
          exact hj12 _ _ _ h ⟨e8_0, rfl, e8_10, e8_11⟩
        · have h := h.2 hc17
          refine Go.condF (btF rfl hc17) ?_
          refine Go.skip ?_
          refine Go.inBlock ?_
          exact hj12 _ _ _ h ⟨e8_0, e8_2, e8_10, e8_11⟩
    · have h := h.2 hc10
      refine Go.condF (btF rfl hc10) ?_
      refine Go.exit rfl ?_
      refine Go.seq ?_
      refine Go.region rfl ?_
      refine GoOps.q (v := Sl.v s6.1) rfl rfl (by decide) (q_move e8_2) ?_
      refine GoOps.q (v := Sl.v s6.1) rfl rfl (by decide) (q_assign rfl) ?_
      refine GoOps.nil ?_
      exact Go.ret ⟨.inl rfl, _, _, DOk.nil, (resOk1 Try.results21 rfl), ⟨_, rfl, h⟩⟩

/-- keelson.keelsonlaw12.awake -/
def keelsonlaw12_awake (H : PH) (Q : Bool → PH → Prop) : Prop :=
  keelsonlaw12_eight H fun y2 y3 y4 H1 =>
  mNew H1 (row [.int .i64 0, .int .i64 0, .int .i64 0] 26) fun a5 H6 =>
  mSt H6 a5 ([.int .i64 y3.1, .int .i64 y3.2.1, .int .i64 y3.2.2]) fun H8 =>
  usage_New y2 Sl.nil H8 fun y11 H10 =>
  mJoin (fun (s13 : Bool) (H15 : PH) =>
  mJoin (fun (s18 : Bool) (H20 : PH) =>
  mIf s18
  (Q false H20)
  (mLoop (fun (s23 : Int × Int) (H26 : PH) (again24 : (Int × Int) → PH → Prop) =>
  mIf (decide (s23.2 < 8))
  (mJoin (fun (s28 : Int) (H30 : PH) =>
  again24 (s28, IntKind.wrap .i64 (s23.2 + 1)) H30)
  fun j29 =>
  usage_Table_Take y11 false H26 fun y33 y34 H32 =>
  mJoin (fun (s36 : Bool) (H38 : PH) =>
  mIf s36
  (j29 (IntKind.wrap .i64 (s23.1 + 1)) H38)
  (j29 s23.1 H38))
  fun j37 =>
  mIf y34
  (j37 (y33 == s23.1) H32)
  (j37 false H32))
  (usage_Table_Take y11 true H26 fun y42 y43 H41 =>
  usage_Table_Seal y11 0 H41 fun H44 =>
  keelsonlaw12_sealed y11 9 H44 fun y46 H45 =>
  mNewS H45 (row [.int .i64 0] 3) 1 fun r47 H48 =>
  keelsonalike_Ints y46 r47 H48 fun y51 H50 =>
  geom_Geom_Seg y2 0 H50 fun y53 H52 =>
  usage_Table_Add y11 (IntKind.wrap .i64 (y53 + 3)) 1 H52 fun y55 H54 =>
  usage_Table_Release y11 H54 fun y57 H56 =>
  geom_Geom_Seg y2 0 H56 fun y59 H58 =>
  usage_Table_Add y11 (IntKind.wrap .i64 (y59 + 3)) (-1) H58 fun y61 H60 =>
  usage_Table_Release y11 H60 fun y63 H62 =>
  mJoin (fun (s65 : Bool) (H67 : PH) =>
  mJoin (fun (s70 : Bool) (H72 : PH) =>
  mJoin (fun (s75 : Bool) (H77 : PH) =>
  mJoin (fun (s80 : Bool) (H82 : PH) =>
  mJoin (fun (s85 : Bool) (H87 : PH) =>
  mJoin (fun (s90 : Bool) (H92 : PH) =>
  mJoin (fun (s95 : Bool) (H97 : PH) =>
  mJoin (fun (s100 : Bool) (H102 : PH) =>
  mJoin (fun (s105 : Bool) (H107 : PH) =>
  Q s105 H107)
  fun j106 =>
  mIf s100
  (usage_Table_Free none H102 fun y110 H109 =>
  j106 (y110 == 0) H109)
  (j106 false H102))
  fun j101 =>
  mIf s95
  (usage_Table_Free y11 H97 fun y112 H111 =>
  j101 (y112 == 2) H111)
  (j101 false H97))
  fun j96 =>
  mIf s90
  (mIdx y63 1 0 fun a113 =>
  mLd (.int .i64) H92 a113 fun x115 =>
  j96 (x115 == 0) H92)
  (j96 false H92))
  fun j91 =>
  mIf s85
  (j91 ((y63.len : Int) == 1) H87)
  (j91 false H87))
  fun j86 =>
  mIf s80
  (j86 ((y57.len : Int) == 0) H82)
  (j86 false H82))
  fun j81 =>
  mIf s75
  (j81 y55 H77)
  (j81 false H77))
  fun j76 =>
  mIf s70
  (j76 y51 H72)
  (j76 false H72))
  fun j71 =>
  mIf s65
  (j71 (y42 == 6) H67)
  (j71 false H67))
  fun j66 =>
  mIf (s23.1 == 6)
  (j66 y43 H62)
  (j66 false H62)))
  (0, 0) H20))
  fun j19 =>
  mIf s13
  (j19 true H15)
  (usage_New none Sl.nil H15 fun y118 H117 =>
  j19 (!(Option.isNone y118)) H117))
  fun j14 =>
  mIf (!y4)
  (j14 true H10)
  (j14 (Option.isNone y11) H10)

set_option maxRecDepth 20000 in
set_option maxHeartbeats 1000000 in
theorem keelsonlaw12_awake_s (H : PH) (Q : Bool → PH → Prop) (h : keelsonlaw12_awake H Q) :
    CallsH Try.prog 7 #[] H (fun v H' => ∃ (r0 : Bool), v = .bool r0 ∧ Q r0 H') := by
  unfold keelsonlaw12_awake at h
  refine callsH_of_go Try.func7 rfl Try.ntmps7 (Nat.le_of_ble_eq_true rfl) ?_
  refine Go.seq ?_
  refine Go.region rfl ?_
  refine GoOps.q (v := .bool false) rfl rfl (by decide) (q_assign rfl) ?_
  refine GoOps.nil ?_
  refine Go.seq ?_
  refine Go.region rfl ?_
  refine call_dst rfl (by decide) body16 (keelsonlaw12_eight_s _ _ h) rfl ?_
  rintro _ H1 ⟨y2, y3, y4, rfl, h⟩
  refine GoOps.q (v := .tuple #[.pointer y2, .agg ([.int .i64 y3.1, .int .i64 y3.2.1, .int .i64 y3.2.2] : List Value).toArray, .bool y4]) rfl rfl (by decide) (q_move rfl) ?_
  refine GoOps.q (v := .pointer y2) rfl rfl (by decide) (q_extract rfl rfl) ?_
  refine GoOps.q (v := .agg ([.int .i64 y3.1, .int .i64 y3.2.1, .int .i64 y3.2.2] : List Value).toArray) rfl rfl (by decide) (q_extract rfl rfl) ?_
  refine GoOps.q (v := .bool y4) rfl rfl (by decide) (q_extract rfl rfl) ?_
  refine op_dst rfl rfl (by decide) (do_new zero26 rfl fun a5 H6 hb7 => ?_) 
  have h := h a5 H6 hb7
  refine GoOps.q (v := .pointer y2) rfl rfl (by decide) (q_assign rfl) ?_
  obtain ⟨q9b, q9o, q9c, q9e, hq9a, hq9b, hq9l, hq9v, h⟩ := h
  refine op_none rfl rfl (do_store (vs := [.int .i64 y3.1, .int .i64 y3.2.1, .int .i64 y3.2.2]) size26 (pta rfl hq9a) rfl rfl rfl hq9v hq9b hq9l ?_) 
  refine GoOps.q (v := .bool y4) rfl rfl (by decide) (q_assign rfl) ?_
  refine GoOps.nil ?_
  refine Go.seq ?_
  refine Go.region rfl ?_
  refine GoOps.q (v := .pointer y2) rfl rfl (by decide) (q_move rfl) ?_
  refine call_dst rfl (by decide) body10 (usage_New_s _ _ _ _ h) rfl ?_
  rintro _ H10 ⟨y11, rfl, h⟩
  refine GoOps.q (v := .pointer y11) rfl rfl (by decide) (q_assign rfl) ?_
  refine GoOps.nil ?_
  refine Go.seq ?_
  refine Go.seq ?_
  refine Go.region rfl ?_
  refine GoOps.q (v := .bool y4) rfl rfl (by decide) (q_move rfl) ?_
  refine GoOps.q (v := .bool (!y4)) rfl rfl (by decide) (q_not rfl) ?_
  refine GoOps.q (v := .bool (!y4)) rfl rfl (by decide) (q_move rfl) ?_
  refine join_ops 3 (fun ρ (s13 : Bool) => ρ 1 = .pointer y2 ∧ ρ 4 = .pointer y11 ∧ ρ 28 = .bool s13) h ?_ ?_ <;> clear h
  · intro s13 H15 ρ h hE
    obtain ⟨e16_1, e16_4, e16_28⟩ := hE
    refine GoOps.q (v := .bool s13) rfl rfl (by decide) (q_move e16_28) ?_
    refine join_ops 3 (fun ρ (s18 : Bool) => ρ 1 = .pointer y2 ∧ ρ 4 = .pointer y11 ∧ ρ 32 = .bool s18) h ?_ ?_ <;> clear h
    · intro s18 H20 ρ h hE
      obtain ⟨e21_1, e21_4, e21_32⟩ := hE
      refine GoOps.nil ?_
      rcases bor s18 with hc22 | hc22
      · have h := h.1 hc22
        refine Go.condT (btT e21_32 hc22) ?_
        refine Go.seq ?_
        refine Go.region rfl ?_
        refine GoOps.q (v := .bool false) rfl rfl (by decide) (q_assign rfl) ?_
        refine GoOps.nil ?_
        exact Go.ret ⟨.inl rfl, _, _, DOk.nil, (resOk1 Try.results7 rfl), ⟨_, rfl, h⟩⟩
      · have h := h.2 hc22
        refine Go.condF (btF e21_32 hc22) ?_
        refine Go.skip ?_
        refine Go.seq ?_
        refine Go.region rfl ?_
        refine GoOps.q (v := .int .i64 0) rfl rfl (by decide) (q_assign rfl) ?_
        refine GoOps.nil ?_
        refine Go.seq ?_
        refine Go.seq ?_
        refine Go.region rfl ?_
        refine GoOps.q (v := .int .i64 0) rfl rfl (by decide) (q_assign rfl) ?_
        refine GoOps.nil ?_
        refine Go.block ?_
        refine loop_go (fun ρ (s23 : Int × Int) => ρ 1 = .pointer y2 ∧ ρ 4 = .pointer y11 ∧ ρ 5 = .int .i64 s23.1 ∧ ρ 6 = .int .i64 s23.2) h ⟨e21_1, e21_4, rfl, rfl⟩ ?_
        clear h
        intro ρ s23 H26 again24 hE h hagain24
        obtain ⟨e25_1, e25_4, e25_5, e25_6⟩ := hE
        refine Go.seq ?_
        refine Go.seq ?_
        refine Go.region rfl ?_
        refine GoOps.q (v := .int .i64 s23.2) rfl rfl (by decide) (q_move e25_6) ?_
        refine GoOps.q (v := .bool (decide (s23.2 < 8))) rfl rfl (by decide) (q_lss rfl rfl) ?_
        refine GoOps.nil ?_
        rcases bor (decide (s23.2 < 8)) with hc27 | hc27
        · have h := h.1 hc27
          refine Go.condT (btT rfl hc27) ?_
          refine Go.skip ?_
          refine Go.seq ?_
          refine join_go 1 (fun ρ (s28 : Int) => ρ 1 = .pointer y2 ∧ ρ 4 = .pointer y11 ∧ ρ 5 = .int .i64 s28 ∧ ρ 6 = .int .i64 s23.2) h ?_ ?_ <;> clear h
          · intro s28 H30 ρ h hE
            obtain ⟨e31_1, e31_4, e31_5, e31_6⟩ := hE
            refine Go.region rfl ?_
            refine GoOps.q (v := .int .i64 s23.2) rfl rfl (by decide) (q_move e31_6) ?_
            refine GoOps.q (v := .int .i64 (IntKind.wrap .i64 (s23.2 + 1))) rfl rfl (by decide) (q_add rfl rfl) ?_
            refine GoOps.q (v := .int .i64 (IntKind.wrap .i64 (s23.2 + 1))) rfl rfl (by decide) (q_assign rfl) ?_
            refine GoOps.nil ?_
            exact hagain24 _ _ _ h ⟨e31_1, e31_4, e31_5, rfl⟩
          · intro j29 hj29 h
            refine Go.block ?_
            refine Go.seq ?_
            refine Go.region rfl ?_
            refine GoOps.q (v := .pointer y11) rfl rfl (by decide) (q_move e25_4) ?_
            refine call_dst rfl (by decide) body13 (usage_Table_Take_s _ _ _ _ h) rfl ?_
            rintro _ H32 ⟨y33, y34, rfl, h⟩
            refine GoOps.q (v := .tuple #[.int .i64 y33, .bool y34]) rfl rfl (by decide) (q_move rfl) ?_
            refine GoOps.q (v := .int .i64 y33) rfl rfl (by decide) (q_extract rfl rfl) ?_
            refine GoOps.q (v := .bool y34) rfl rfl (by decide) (q_extract rfl rfl) ?_
            refine GoOps.q (v := .int .i64 y33) rfl rfl (by decide) (q_assign rfl) ?_
            refine GoOps.q (v := .bool y34) rfl rfl (by decide) (q_assign rfl) ?_
            refine GoOps.nil ?_
            refine Go.seq ?_
            refine Go.region rfl ?_
            refine GoOps.q (v := .bool y34) rfl rfl (by decide) (q_move rfl) ?_
            refine GoOps.q (v := .bool y34) rfl rfl (by decide) (q_move rfl) ?_
            refine join_ops 4 (fun ρ (s36 : Bool) => ρ 1 = .pointer y2 ∧ ρ 4 = .pointer y11 ∧ ρ 5 = .int .i64 s23.1 ∧ ρ 6 = .int .i64 s23.2 ∧ ρ 47 = .bool s36) h ?_ ?_ <;> clear h
            · intro s36 H38 ρ h hE
              obtain ⟨e39_1, e39_4, e39_5, e39_6, e39_47⟩ := hE
              refine GoOps.nil ?_
              rcases bor s36 with hc40 | hc40
              · have h := h.1 hc40
                refine Go.condT (btT e39_47 hc40) ?_
                refine Go.region rfl ?_
                refine GoOps.q (v := .int .i64 s23.1) rfl rfl (by decide) (q_move e39_5) ?_
                refine GoOps.q (v := .int .i64 (IntKind.wrap .i64 (s23.1 + 1))) rfl rfl (by decide) (q_add rfl rfl) ?_
                refine GoOps.q (v := .int .i64 (IntKind.wrap .i64 (s23.1 + 1))) rfl rfl (by decide) (q_assign rfl) ?_
                refine GoOps.nil ?_
                refine Go.inBlock ?_
                exact hj29 _ _ _ h ⟨e39_1, e39_4, rfl, e39_6⟩
              · have h := h.2 hc40
                refine Go.condF (btF e39_47 hc40) ?_
                refine Go.skip ?_
                refine Go.inBlock ?_
                exact hj29 _ _ _ h ⟨e39_1, e39_4, e39_5, e39_6⟩
            · intro j37 hj37 h
              rcases bor y34 with hc35 | hc35
              · have h := h.1 hc35
                refine GoOps.q (v := .int .i64 y33) (want_yes rfl rfl rfl hc35) rfl (by decide) (q_move rfl) ?_
                refine GoOps.q (v := .int .i64 s23.1) (want_yes rfl rfl rfl hc35) rfl (by decide) (q_move e25_5) ?_
                refine GoOps.q (v := .bool (y33 == s23.1)) (want_yes rfl rfl rfl hc35) rfl (by decide) (q_eql rfl rfl) ?_
                refine GoOps.q (v := .bool (y33 == s23.1)) rfl rfl (by decide) (q_pickT (btT rfl hc35) rfl) ?_
                exact hj37 (y33 == s23.1) _ _ h (by exact ⟨e25_1, e25_4, e25_5, e25_6, rfl⟩)
              · have h := h.2 hc35
                refine no_dst (want_no rfl rfl rfl hc35) rfl (by decide) ?_
                refine no_dst (want_no rfl rfl rfl hc35) rfl (by decide) ?_
                refine no_dst (want_no rfl rfl rfl hc35) rfl (by decide) ?_
                refine GoOps.q (v := .bool false) rfl rfl (by decide) (q_pickF (btF rfl hc35) rfl) ?_
                exact hj37 false _ _ h (by exact ⟨e25_1, e25_4, e25_5, e25_6, rfl⟩)
        · have h := h.2 hc27
          refine Go.condF (btF rfl hc27) ?_
          refine Go.exit rfl ?_
          refine Go.seq ?_
          refine Go.region rfl ?_
          refine GoOps.q (v := .pointer y11) rfl rfl (by decide) (q_move e25_4) ?_
          refine call_dst rfl (by decide) body13 (usage_Table_Take_s _ _ _ _ h) rfl ?_
          rintro _ H41 ⟨y42, y43, rfl, h⟩
          refine GoOps.q (v := .tuple #[.int .i64 y42, .bool y43]) rfl rfl (by decide) (q_move rfl) ?_
          refine GoOps.q (v := .int .i64 y42) rfl rfl (by decide) (q_extract rfl rfl) ?_
          refine GoOps.q (v := .bool y43) rfl rfl (by decide) (q_extract rfl rfl) ?_
          refine GoOps.q (v := .int .i64 y42) rfl rfl (by decide) (q_assign rfl) ?_
          refine GoOps.q (v := .bool y43) rfl rfl (by decide) (q_assign rfl) ?_
          refine GoOps.nil ?_
          refine Go.seq ?_
          refine Go.region rfl ?_
          refine GoOps.q (v := .pointer y11) rfl rfl (by decide) (q_move e25_4) ?_
          refine call_dst rfl (by decide) body17 (usage_Table_Seal_s _ _ _ _ h) rfl ?_
          rintro _ H44 ⟨rfl, h⟩
          refine GoOps.nil ?_
          refine Go.seq ?_
          refine Go.region rfl ?_
          refine GoOps.q (v := .pointer y11) rfl rfl (by decide) (q_move e25_4) ?_
          refine call_dst rfl (by decide) body25 (keelsonlaw12_sealed_s _ _ _ _ h) rfl ?_
          rintro _ H45 ⟨y46, rfl, h⟩
          refine op_dst rfl rfl (by decide) (do_bs (ps := [(0, .int .i64 0)]) (zs := [.int .i64 0]) (cs := [.int .i64 0]) slice23 zero3 rfl rfl (by decide) (by decide) rfl rfl fun r47 H48 hb49 => ?_) 
          have h := h r47 H48 hb49
          refine call_dst rfl (by decide) body22 (keelsonalike_Ints_s _ _ _ _ h) rfl ?_
          rintro _ H50 ⟨y51, rfl, h⟩
          refine GoOps.q (v := .bool y51) rfl rfl (by decide) (q_assign rfl) ?_
          refine GoOps.nil ?_
          refine Go.seq ?_
          refine Go.region rfl ?_
          refine GoOps.q (v := .pointer y11) rfl rfl (by decide) (q_move e25_4) ?_
          refine GoOps.q (v := .pointer y2) rfl rfl (by decide) (q_move e25_1) ?_
          refine call_dst rfl (by decide) body19 (geom_Geom_Seg_s _ _ _ _ h) rfl ?_
          rintro _ H52 ⟨y53, rfl, h⟩
          refine GoOps.q (v := .int .i64 (IntKind.wrap .i64 (y53 + 3))) rfl rfl (by decide) (q_add rfl rfl) ?_
          refine call_dst rfl (by decide) body18 (usage_Table_Add_s _ _ _ _ _ h) rfl ?_
          rintro _ H54 ⟨y55, rfl, h⟩
          refine GoOps.q (v := .bool y55) rfl rfl (by decide) (q_assign rfl) ?_
          refine GoOps.nil ?_
          refine Go.seq ?_
          refine Go.region rfl ?_
          refine GoOps.q (v := .pointer y11) rfl rfl (by decide) (q_move e25_4) ?_
          refine call_dst rfl (by decide) body21 (usage_Table_Release_s _ _ _ h) rfl ?_
          rintro _ H56 ⟨y57, rfl, h⟩
          refine GoOps.q (v := .int .i64 (y57.len : Int)) rfl rfl (by decide) (q_len Try.underlying23 rfl (ls1 rfl)) ?_
          refine GoOps.q (v := .int .i64 (y57.len : Int)) rfl rfl (by decide) (q_assign rfl) ?_
          refine GoOps.nil ?_
          refine Go.seq ?_
          refine Go.region rfl ?_
          refine GoOps.q (v := .pointer y11) rfl rfl (by decide) (q_move e25_4) ?_
          refine GoOps.q (v := .pointer y2) rfl rfl (by decide) (q_move e25_1) ?_
          refine call_dst rfl (by decide) body19 (geom_Geom_Seg_s _ _ _ _ h) rfl ?_
          rintro _ H58 ⟨y59, rfl, h⟩
          refine GoOps.q (v := .int .i64 (IntKind.wrap .i64 (y59 + 3))) rfl rfl (by decide) (q_add rfl rfl) ?_
          refine call_dst rfl (by decide) body18 (usage_Table_Add_s _ _ _ _ _ h) rfl ?_
          rintro _ H60 ⟨y61, rfl, h⟩
          refine GoOps.nil ?_
          refine Go.seq ?_
          refine Go.region rfl ?_
          refine GoOps.q (v := .pointer y11) rfl rfl (by decide) (q_move e25_4) ?_
          refine call_dst rfl (by decide) body21 (usage_Table_Release_s _ _ _ h) rfl ?_
          rintro _ H62 ⟨y63, rfl, h⟩
          refine GoOps.q (v := Sl.v y63) rfl rfl (by decide) (q_assign rfl) ?_
          refine GoOps.nil ?_
          refine Go.seq ?_
          refine Go.region rfl ?_
          refine GoOps.q (v := .pointer none) rfl rfl (by decide) (q_assign rfl) ?_
          refine GoOps.nil ?_
          refine Go.seq ?_
          refine Go.region rfl ?_
          refine GoOps.q (v := .int .i64 s23.1) rfl rfl (by decide) (q_move e25_5) ?_
          refine GoOps.q (v := .bool (s23.1 == 6)) rfl rfl (by decide) (q_eql rfl rfl) ?_
          refine GoOps.q (v := .bool (s23.1 == 6)) rfl rfl (by decide) (q_move rfl) ?_
          refine join_ops 2 (fun ρ (s65 : Bool) => ρ 4 = .pointer y11 ∧ ρ 9 = .int .i64 y42 ∧ ρ 11 = .bool y51 ∧ ρ 12 = .bool y55 ∧ ρ 13 = .int .i64 (y57.len : Int) ∧ ρ 14 = Sl.v y63 ∧ ρ 15 = .pointer none ∧ ρ 80 = .bool s65) h ?_ ?_ <;> clear h
          · intro s65 H67 ρ h hE
            obtain ⟨e68_4, e68_9, e68_11, e68_12, e68_13, e68_14, e68_15, e68_80⟩ := hE
            refine GoOps.q (v := .bool s65) rfl rfl (by decide) (q_move e68_80) ?_
            refine join_ops 3 (fun ρ (s70 : Bool) => ρ 4 = .pointer y11 ∧ ρ 11 = .bool y51 ∧ ρ 12 = .bool y55 ∧ ρ 13 = .int .i64 (y57.len : Int) ∧ ρ 14 = Sl.v y63 ∧ ρ 15 = .pointer none ∧ ρ 84 = .bool s70) h ?_ ?_ <;> clear h
            · intro s70 H72 ρ h hE
              obtain ⟨e73_4, e73_11, e73_12, e73_13, e73_14, e73_15, e73_84⟩ := hE
              refine GoOps.q (v := .bool s70) rfl rfl (by decide) (q_move e73_84) ?_
              refine join_ops 2 (fun ρ (s75 : Bool) => ρ 4 = .pointer y11 ∧ ρ 12 = .bool y55 ∧ ρ 13 = .int .i64 (y57.len : Int) ∧ ρ 14 = Sl.v y63 ∧ ρ 15 = .pointer none ∧ ρ 87 = .bool s75) h ?_ ?_ <;> clear h
              · intro s75 H77 ρ h hE
                obtain ⟨e78_4, e78_12, e78_13, e78_14, e78_15, e78_87⟩ := hE
                refine GoOps.q (v := .bool s75) rfl rfl (by decide) (q_move e78_87) ?_
                refine join_ops 2 (fun ρ (s80 : Bool) => ρ 4 = .pointer y11 ∧ ρ 13 = .int .i64 (y57.len : Int) ∧ ρ 14 = Sl.v y63 ∧ ρ 15 = .pointer none ∧ ρ 90 = .bool s80) h ?_ ?_ <;> clear h
                · intro s80 H82 ρ h hE
                  obtain ⟨e83_4, e83_13, e83_14, e83_15, e83_90⟩ := hE
                  refine GoOps.q (v := .bool s80) rfl rfl (by decide) (q_move e83_90) ?_
                  refine join_ops 3 (fun ρ (s85 : Bool) => ρ 4 = .pointer y11 ∧ ρ 14 = Sl.v y63 ∧ ρ 15 = .pointer none ∧ ρ 94 = .bool s85) h ?_ ?_ <;> clear h
                  · intro s85 H87 ρ h hE
                    obtain ⟨e88_4, e88_14, e88_15, e88_94⟩ := hE
                    refine GoOps.q (v := .bool s85) rfl rfl (by decide) (q_move e88_94) ?_
                    refine join_ops 4 (fun ρ (s90 : Bool) => ρ 4 = .pointer y11 ∧ ρ 14 = Sl.v y63 ∧ ρ 15 = .pointer none ∧ ρ 99 = .bool s90) h ?_ ?_ <;> clear h
                    · intro s90 H92 ρ h hE
                      obtain ⟨e93_4, e93_14, e93_15, e93_99⟩ := hE
                      refine GoOps.q (v := .bool s90) rfl rfl (by decide) (q_move e93_99) ?_
                      refine join_ops 5 (fun ρ (s95 : Bool) => ρ 4 = .pointer y11 ∧ ρ 15 = .pointer none ∧ ρ 105 = .bool s95) h ?_ ?_ <;> clear h
                      · intro s95 H97 ρ h hE
                        obtain ⟨e98_4, e98_15, e98_105⟩ := hE
                        refine GoOps.q (v := .bool s95) rfl rfl (by decide) (q_move e98_105) ?_
                        refine join_ops 4 (fun ρ (s100 : Bool) => ρ 15 = .pointer none ∧ ρ 110 = .bool s100) h ?_ ?_ <;> clear h
                        · intro s100 H102 ρ h hE
                          obtain ⟨e103_15, e103_110⟩ := hE
                          refine GoOps.q (v := .bool s100) rfl rfl (by decide) (q_move e103_110) ?_
                          refine join_ops 4 (fun ρ (s105 : Bool) => ρ 115 = .bool s105) h ?_ ?_ <;> clear h
                          · intro s105 H107 ρ h hE
                            have e108_115 := hE
                            refine GoOps.q (v := .bool s105) rfl rfl (by decide) (q_assign e108_115) ?_
                            refine GoOps.nil ?_
                            exact Go.ret ⟨.inl rfl, _, _, DOk.nil, (resOk1 Try.results7 rfl), ⟨_, rfl, h⟩⟩
                          · intro j106 hj106 h
                            rcases bor s100 with hc104 | hc104
                            · have h := h.1 hc104
                              refine GoOps.q (v := .pointer none) (want_yes rfl rfl rfl hc104) rfl (by decide) (q_move e103_15) ?_
                              refine call_dst (want_yes rfl rfl rfl hc104) (by decide) body15 (usage_Table_Free_s _ _ _ h) rfl ?_
                              rintro _ H109 ⟨y110, rfl, h⟩
                              refine GoOps.q (v := .bool (y110 == 0)) (want_yes rfl rfl rfl hc104) rfl (by decide) (q_eql rfl rfl) ?_
                              refine GoOps.q (v := .bool (y110 == 0)) rfl rfl (by decide) (q_pickT (btT rfl hc104) rfl) ?_
                              exact hj106 (y110 == 0) _ _ h (by exact rfl)
                            · have h := h.2 hc104
                              refine no_dst (want_no rfl rfl rfl hc104) rfl (by decide) ?_
                              refine no_dst (want_no rfl rfl rfl hc104) rfl (by decide) ?_
                              refine no_dst (want_no rfl rfl rfl hc104) rfl (by decide) ?_
                              refine GoOps.q (v := .bool false) rfl rfl (by decide) (q_pickF (btF rfl hc104) rfl) ?_
                              exact hj106 false _ _ h (by exact rfl)
                        · intro j101 hj101 h
                          rcases bor s95 with hc99 | hc99
                          · have h := h.1 hc99
                            refine GoOps.q (v := .pointer y11) (want_yes rfl rfl rfl hc99) rfl (by decide) (q_move e98_4) ?_
                            refine call_dst (want_yes rfl rfl rfl hc99) (by decide) body15 (usage_Table_Free_s _ _ _ h) rfl ?_
                            rintro _ H111 ⟨y112, rfl, h⟩
                            refine GoOps.q (v := .bool (y112 == 2)) (want_yes rfl rfl rfl hc99) rfl (by decide) (q_eql rfl rfl) ?_
                            refine GoOps.q (v := .bool (y112 == 2)) rfl rfl (by decide) (q_pickT (btT rfl hc99) rfl) ?_
                            exact hj101 (y112 == 2) _ _ h (by exact ⟨e98_15, rfl⟩)
                          · have h := h.2 hc99
                            refine no_dst (want_no rfl rfl rfl hc99) rfl (by decide) ?_
                            refine no_dst (want_no rfl rfl rfl hc99) rfl (by decide) ?_
                            refine no_dst (want_no rfl rfl rfl hc99) rfl (by decide) ?_
                            refine GoOps.q (v := .bool false) rfl rfl (by decide) (q_pickF (btF rfl hc99) rfl) ?_
                            exact hj101 false _ _ h (by exact ⟨e98_15, rfl⟩)
                      · intro j96 hj96 h
                        rcases bor s90 with hc94 | hc94
                        · have h := h.1 hc94
                          refine GoOps.q (v := Sl.v y63) (want_yes rfl rfl rfl hc94) rfl (by decide) (q_move e93_14) ?_
                          obtain ⟨a113, ha114, h⟩ := h
                          refine GoOps.q (v := .pointer (some a113)) (want_yes rfl rfl rfl hc94) rfl (by decide) (q_idx slice23 ha114 rfl rfl) ?_
                          obtain ⟨x115, hx116, h⟩ := h
                          refine GoOps.q (v := .int .i64 x115) (want_yes rfl rfl rfl hc94) rfl (by decide) (q_load scalar3 rfl hx116) ?_
                          refine GoOps.q (v := .bool (x115 == 0)) (want_yes rfl rfl rfl hc94) rfl (by decide) (q_eql rfl rfl) ?_
                          refine GoOps.q (v := .bool (x115 == 0)) rfl rfl (by decide) (q_pickT (btT rfl hc94) rfl) ?_
                          exact hj96 (x115 == 0) _ _ h (by exact ⟨e93_4, e93_15, rfl⟩)
                        · have h := h.2 hc94
                          refine no_dst (want_no rfl rfl rfl hc94) rfl (by decide) ?_
                          refine no_dst (want_no rfl rfl rfl hc94) rfl (by decide) ?_
                          refine no_dst (want_no rfl rfl rfl hc94) rfl (by decide) ?_
                          refine no_dst (want_no rfl rfl rfl hc94) rfl (by decide) ?_
                          refine GoOps.q (v := .bool false) rfl rfl (by decide) (q_pickF (btF rfl hc94) rfl) ?_
                          exact hj96 false _ _ h (by exact ⟨e93_4, e93_15, rfl⟩)
                    · intro j91 hj91 h
                      rcases bor s85 with hc89 | hc89
                      · have h := h.1 hc89
                        refine GoOps.q (v := Sl.v y63) (want_yes rfl rfl rfl hc89) rfl (by decide) (q_move e88_14) ?_
                        refine GoOps.q (v := .int .i64 (y63.len : Int)) (want_yes rfl rfl rfl hc89) rfl (by decide) (q_len Try.underlying23 rfl (ls1 rfl)) ?_
                        refine GoOps.q (v := .bool ((y63.len : Int) == 1)) (want_yes rfl rfl rfl hc89) rfl (by decide) (q_eql rfl rfl) ?_
                        refine GoOps.q (v := .bool ((y63.len : Int) == 1)) rfl rfl (by decide) (q_pickT (btT rfl hc89) rfl) ?_
                        exact hj91 ((y63.len : Int) == 1) _ _ h (by exact ⟨e88_4, e88_14, e88_15, rfl⟩)
                      · have h := h.2 hc89
                        refine no_dst (want_no rfl rfl rfl hc89) rfl (by decide) ?_
                        refine no_dst (want_no rfl rfl rfl hc89) rfl (by decide) ?_
                        refine no_dst (want_no rfl rfl rfl hc89) rfl (by decide) ?_
                        refine GoOps.q (v := .bool false) rfl rfl (by decide) (q_pickF (btF rfl hc89) rfl) ?_
                        exact hj91 false _ _ h (by exact ⟨e88_4, e88_14, e88_15, rfl⟩)
                  · intro j86 hj86 h
                    rcases bor s80 with hc84 | hc84
                    · have h := h.1 hc84
                      refine GoOps.q (v := .int .i64 (y57.len : Int)) (want_yes rfl rfl rfl hc84) rfl (by decide) (q_move e83_13) ?_
                      refine GoOps.q (v := .bool ((y57.len : Int) == 0)) (want_yes rfl rfl rfl hc84) rfl (by decide) (q_eql rfl rfl) ?_
                      refine GoOps.q (v := .bool ((y57.len : Int) == 0)) rfl rfl (by decide) (q_pickT (btT rfl hc84) rfl) ?_
                      exact hj86 ((y57.len : Int) == 0) _ _ h (by exact ⟨e83_4, e83_14, e83_15, rfl⟩)
                    · have h := h.2 hc84
                      refine no_dst (want_no rfl rfl rfl hc84) rfl (by decide) ?_
                      refine no_dst (want_no rfl rfl rfl hc84) rfl (by decide) ?_
                      refine GoOps.q (v := .bool false) rfl rfl (by decide) (q_pickF (btF rfl hc84) rfl) ?_
                      exact hj86 false _ _ h (by exact ⟨e83_4, e83_14, e83_15, rfl⟩)
                · intro j81 hj81 h
                  rcases bor s75 with hc79 | hc79
                  · have h := h.1 hc79
                    refine GoOps.q (v := .bool y55) (want_yes rfl rfl rfl hc79) rfl (by decide) (q_move e78_12) ?_
                    refine GoOps.q (v := .bool y55) rfl rfl (by decide) (q_pickT (btT rfl hc79) rfl) ?_
                    exact hj81 y55 _ _ h (by exact ⟨e78_4, e78_13, e78_14, e78_15, rfl⟩)
                  · have h := h.2 hc79
                    refine no_dst (want_no rfl rfl rfl hc79) rfl (by decide) ?_
                    refine GoOps.q (v := .bool false) rfl rfl (by decide) (q_pickF (btF rfl hc79) rfl) ?_
                    exact hj81 false _ _ h (by exact ⟨e78_4, e78_13, e78_14, e78_15, rfl⟩)
              · intro j76 hj76 h
                rcases bor s70 with hc74 | hc74
                · have h := h.1 hc74
                  refine GoOps.q (v := .bool y51) (want_yes rfl rfl rfl hc74) rfl (by decide) (q_move e73_11) ?_
                  refine GoOps.q (v := .bool y51) rfl rfl (by decide) (q_pickT (btT rfl hc74) rfl) ?_
                  exact hj76 y51 _ _ h (by exact ⟨e73_4, e73_12, e73_13, e73_14, e73_15, rfl⟩)
                · have h := h.2 hc74
                  refine no_dst (want_no rfl rfl rfl hc74) rfl (by decide) ?_
                  refine GoOps.q (v := .bool false) rfl rfl (by decide) (q_pickF (btF rfl hc74) rfl) ?_
                  exact hj76 false _ _ h (by exact ⟨e73_4, e73_12, e73_13, e73_14, e73_15, rfl⟩)
            · intro j71 hj71 h
              rcases bor s65 with hc69 | hc69
              · have h := h.1 hc69
                refine GoOps.q (v := .int .i64 y42) (want_yes rfl rfl rfl hc69) rfl (by decide) (q_move e68_9) ?_
                refine GoOps.q (v := .bool (y42 == 6)) (want_yes rfl rfl rfl hc69) rfl (by decide) (q_eql rfl rfl) ?_
                refine GoOps.q (v := .bool (y42 == 6)) rfl rfl (by decide) (q_pickT (btT rfl hc69) rfl) ?_
                exact hj71 (y42 == 6) _ _ h (by exact ⟨e68_4, e68_11, e68_12, e68_13, e68_14, e68_15, rfl⟩)
              · have h := h.2 hc69
                refine no_dst (want_no rfl rfl rfl hc69) rfl (by decide) ?_
                refine no_dst (want_no rfl rfl rfl hc69) rfl (by decide) ?_
                refine GoOps.q (v := .bool false) rfl rfl (by decide) (q_pickF (btF rfl hc69) rfl) ?_
                exact hj71 false _ _ h (by exact ⟨e68_4, e68_11, e68_12, e68_13, e68_14, e68_15, rfl⟩)
          · intro j66 hj66 h
            rcases bor (s23.1 == 6) with hc64 | hc64
            · have h := h.1 hc64
              refine GoOps.q (v := .bool y43) (want_yes rfl rfl rfl hc64) rfl (by decide) (q_move rfl) ?_
              refine GoOps.q (v := .bool y43) rfl rfl (by decide) (q_pickT (btT rfl hc64) rfl) ?_
              exact hj66 y43 _ _ h (by exact ⟨e25_4, rfl, rfl, rfl, rfl, rfl, rfl, rfl⟩)
            · have h := h.2 hc64
              refine no_dst (want_no rfl rfl rfl hc64) rfl (by decide) ?_
              refine GoOps.q (v := .bool false) rfl rfl (by decide) (q_pickF (btF rfl hc64) rfl) ?_
              exact hj66 false _ _ h (by exact ⟨e25_4, rfl, rfl, rfl, rfl, rfl, rfl, rfl⟩)
    · intro j19 hj19 h
      rcases bor s13 with hc17 | hc17
      · have h := h.1 hc17
        refine no_dst (want_no rfl rfl rfl hc17) rfl (by decide) ?_
        refine no_dst (want_no rfl rfl rfl hc17) rfl (by decide) ?_
        refine GoOps.q (v := .bool true) rfl rfl (by decide) (q_pickT (btT rfl hc17) rfl) ?_
        exact hj19 true _ _ h (by exact ⟨e16_1, e16_4, rfl⟩)
      · have h := h.2 hc17
        refine call_dst (want_yes rfl rfl rfl hc17) (by decide) body10 (usage_New_s _ _ _ _ h) rfl ?_
        rintro _ H117 ⟨y118, rfl, h⟩
        refine GoOps.q (v := .bool (!(Option.isNone y118))) (want_yes rfl rfl rfl hc17) rfl (by decide) (q_neqPn Try.underlying32 rfl rfl) ?_
        refine GoOps.q (v := .bool (!(Option.isNone y118))) rfl rfl (by decide) (q_pickF (btF rfl hc17) rfl) ?_
        exact hj19 (!(Option.isNone y118)) _ _ h (by exact ⟨e16_1, e16_4, rfl⟩)
  · intro j14 hj14 h
    rcases bor (!y4) with hc12 | hc12
    · have h := h.1 hc12
      refine no_dst (want_no rfl rfl rfl hc12) rfl (by decide) ?_
      refine no_dst (want_no rfl rfl rfl hc12) rfl (by decide) ?_
      refine GoOps.q (v := .bool true) rfl rfl (by decide) (q_pickT (btT rfl hc12) rfl) ?_
      exact hj14 true _ _ h (by exact ⟨rfl, rfl, rfl⟩)
    · have h := h.2 hc12
      refine GoOps.q (v := .pointer y11) (want_yes rfl rfl rfl hc12) rfl (by decide) (q_move rfl) ?_
      refine GoOps.q (v := .bool (Option.isNone y11)) (want_yes rfl rfl rfl hc12) rfl (by decide) (q_eqlPn Try.underlying32 rfl rfl) ?_
      refine GoOps.q (v := .bool (Option.isNone y11)) rfl rfl (by decide) (q_pickF (btF rfl hc12) rfl) ?_
      exact hj14 (Option.isNone y11) _ _ h (by exact ⟨rfl, rfl, rfl⟩)

/-- keelson.keelsonref1.Mod -/
def keelsonref1_Mod (p0 : Int) (p1 : Int) (H : PH) (Q : Int → PH → Prop) : Prop :=
  mNe p1 <|
  mJoin (fun (s2 : Int) (H4 : PH) =>
  Q s2 H4)
  fun j3 =>
  mIf (decide ((Int.tmod p0 p1) < 0))
  (j3 (IntKind.wrap .i64 ((Int.tmod p0 p1) + p1)) H)
  (j3 (Int.tmod p0 p1) H)

set_option maxRecDepth 20000 in
set_option maxHeartbeats 1000000 in
theorem keelsonref1_Mod_s (p0 : Int) (p1 : Int) (H : PH) (Q : Int → PH → Prop) (h : keelsonref1_Mod p0 p1 H Q) :
    CallsH Try.prog 38 #[.int .i64 p0, .int .i64 p1] H (fun v H' => ∃ (r0 : Int), v = .int .i64 r0 ∧ Q r0 H') := by
  unfold keelsonref1_Mod at h
  refine callsH_of_go Try.func38 rfl Try.ntmps38 (Nat.le_of_ble_eq_true rfl) ?_
  refine Go.seq ?_
  refine Go.region rfl ?_
  refine GoOps.q (v := .int .i64 0) rfl rfl (by decide) (q_assign rfl) ?_
  refine GoOps.nil ?_
  refine Go.seq ?_
  refine Go.region rfl ?_
  refine GoOps.q (v := .int .i64 p0) rfl rfl (by decide) (q_move rfl) ?_
  refine GoOps.q (v := .int .i64 p1) rfl rfl (by decide) (q_move rfl) ?_
  obtain ⟨hn1, h⟩ := h
  refine GoOps.q (v := .int .i64 (Int.tmod p0 p1)) rfl rfl (by decide) (q_rem hn1 rfl rfl) ?_
  refine GoOps.q (v := .int .i64 (Int.tmod p0 p1)) rfl rfl (by decide) (q_assign rfl) ?_
  refine GoOps.nil ?_
  refine Go.seq ?_
  refine Go.seq ?_
  refine Go.region rfl ?_
  refine GoOps.q (v := .int .i64 (Int.tmod p0 p1)) rfl rfl (by decide) (q_move rfl) ?_
  refine GoOps.q (v := .bool (decide ((Int.tmod p0 p1) < 0))) rfl rfl (by decide) (q_lss rfl rfl) ?_
  refine GoOps.nil ?_
  refine join_go 1 (fun ρ (s2 : Int) => ρ 5 = .int .i64 s2) h ?_ ?_ <;> clear h
  · intro s2 H4 ρ h hE
    have e5_5 := hE
    refine Go.seq ?_
    refine Go.region rfl ?_
    refine GoOps.q (v := .int .i64 s2) rfl rfl (by decide) (q_move e5_5) ?_
    refine GoOps.q (v := .int .i64 s2) rfl rfl (by decide) (q_assign rfl) ?_
    refine GoOps.nil ?_
    exact Go.ret ⟨.inl rfl, _, _, DOk.nil, (resOk1 Try.results38 rfl), ⟨_, rfl, h⟩⟩
  · intro j3 hj3 h
    rcases bor (decide ((Int.tmod p0 p1) < 0)) with hc6 | hc6
    · have h := h.1 hc6
      refine Go.condT (btT rfl hc6) ?_
      refine Go.region rfl ?_
      refine GoOps.q (v := .int .i64 (Int.tmod p0 p1)) rfl rfl (by decide) (q_move rfl) ?_
      refine GoOps.q (v := .int .i64 p1) rfl rfl (by decide) (q_move rfl) ?_
      refine GoOps.q (v := .int .i64 (IntKind.wrap .i64 ((Int.tmod p0 p1) + p1))) rfl rfl (by decide) (q_add rfl rfl) ?_
      refine GoOps.q (v := .int .i64 (IntKind.wrap .i64 ((Int.tmod p0 p1) + p1))) rfl rfl (by decide) (q_assign rfl) ?_
      refine GoOps.nil ?_
      exact hj3 _ _ _ h rfl
    · have h := h.2 hc6
      refine Go.condF (btF rfl hc6) ?_
      refine Go.skip ?_
      exact hj3 _ _ _ h rfl

/-- keelson.keelsonalike.Round -/
def keelsonalike_Round (p0 : Int) (p1 : Int) (H : PH) (Q : Int → PH → Prop) : Prop :=
  keelsonref1_Mod p0 p1 H fun y2 H1 =>
  Q y2 H1

set_option maxRecDepth 20000 in
set_option maxHeartbeats 1000000 in
theorem keelsonalike_Round_s (p0 : Int) (p1 : Int) (H : PH) (Q : Int → PH → Prop) (h : keelsonalike_Round p0 p1 H Q) :
    CallsH Try.prog 11 #[.int .i64 p0, .int .i64 p1] H (fun v H' => ∃ (r0 : Int), v = .int .i64 r0 ∧ Q r0 H') := by
  unfold keelsonalike_Round at h
  refine callsH_of_go Try.func11 rfl Try.ntmps11 (Nat.le_of_ble_eq_true rfl) ?_
  refine Go.seq ?_
  refine Go.region rfl ?_
  refine GoOps.q (v := .int .i64 0) rfl rfl (by decide) (q_assign rfl) ?_
  refine GoOps.nil ?_
  refine Go.seq ?_
  refine Go.region rfl ?_
  refine GoOps.q (v := .int .i64 p0) rfl rfl (by decide) (q_move rfl) ?_
  refine GoOps.q (v := .int .i64 p1) rfl rfl (by decide) (q_move rfl) ?_
  refine call_dst rfl (by decide) body38 (keelsonref1_Mod_s _ _ _ _ h) rfl ?_
  rintro _ H1 ⟨y2, rfl, h⟩
  refine GoOps.q (v := .int .i64 y2) rfl rfl (by decide) (q_assign rfl) ?_
  refine GoOps.nil ?_
  exact Go.ret ⟨.inl rfl, _, _, DOk.nil, (resOk1 Try.results11 rfl), ⟨_, rfl, h⟩⟩

/-- keelson.keelsonalike.Config -/
def keelsonalike_Config (p0 : (Int × Int × Int)) (p1 : Bool) (H : PH) (Q : (Int × Int × Int) → PH → Prop) : Prop :=
  mNew H (row [.int .i64 p0.1, .int .i64 p0.2.1, .int .i64 p0.2.2] 22) fun a1 H2 =>
  mNew H2 (row [.int .i64 0, .int .i64 0, .int .i64 0] 26) fun a4 H5 =>
  mIf p1
  (mIdxA 3 a1 1 0 fun a8 =>
  mLd (.int .i64) H5 a8 fun x10 =>
  mIdxA 3 a1 1 1 fun a12 =>
  mLd (.int .i64) H5 a12 fun x14 =>
  mIdxA 3 a1 1 2 fun a16 =>
  mLd (.int .i64) H5 a16 fun x18 =>
  keelsonalike_Round x10 24 H5 fun y21 H20 =>
  mSame H20 a16 (.int .i64 x18) <|
  mSame H20 a12 (.int .i64 x14) <|
  keelsonalike_Round x14 3 H20 fun y25 H24 =>
  mSame H24 a16 (.int .i64 x18) <|
  keelsonalike_Round x18 4 H24 fun y28 H27 =>
  mSt H27 a4 ([.int .i64 (IntKind.wrap .i64 (1 + y21)), .int .i64 (IntKind.wrap .i64 (8 + y25)), .int .i64 (IntKind.wrap .i64 (24 + y28))]) fun H29 =>
  mLdR (fun (x : (Int × Int × Int)) => [.int .i64 x.1, .int .i64 x.2.1, .int .i64 x.2.2]) H29 a4 3 fun x31 =>
  Q (x31.1, x31.2.1, x31.2.2) H29)
  (mIdxA 3 a1 1 0 fun a33 =>
  mLd (.int .i64) H5 a33 fun x35 =>
  mIdxA 3 a1 1 1 fun a37 =>
  mLd (.int .i64) H5 a37 fun x39 =>
  mIdxA 3 a1 1 2 fun a41 =>
  mLd (.int .i64) H5 a41 fun x43 =>
  keelsonalike_Round x35 64 H5 fun y46 H45 =>
  mSame H45 a41 (.int .i64 x43) <|
  mSame H45 a37 (.int .i64 x39) <|
  keelsonalike_Round x39 25 H45 fun y50 H49 =>
  mSame H49 a41 (.int .i64 x43) <|
  keelsonalike_Round x43 41 H49 fun y53 H52 =>
  mSt H52 a4 ([.int .i64 (IntKind.wrap .i64 (1 + y46)), .int .i64 (IntKind.wrap .i64 (8 + y50)), .int .i64 (IntKind.wrap .i64 (24 + y53))]) fun H54 =>
  mLdR (fun (x : (Int × Int × Int)) => [.int .i64 x.1, .int .i64 x.2.1, .int .i64 x.2.2]) H54 a4 3 fun x56 =>
  Q (x56.1, x56.2.1, x56.2.2) H54)

set_option maxRecDepth 20000 in
set_option maxHeartbeats 1000000 in
theorem keelsonalike_Config_s (p0 : (Int × Int × Int)) (p1 : Bool) (H : PH) (Q : (Int × Int × Int) → PH → Prop) (h : keelsonalike_Config p0 p1 H Q) :
    CallsH Try.prog 8 #[.agg ([.int .i64 p0.1, .int .i64 p0.2.1, .int .i64 p0.2.2] : List Value).toArray, .bool p1] H (fun v H' => ∃ (r0 : (Int × Int × Int)), v = .agg ([.int .i64 r0.1, .int .i64 r0.2.1, .int .i64 r0.2.2] : List Value).toArray ∧ Q r0 H') := by
  unfold keelsonalike_Config at h
  refine callsH_of_go Try.func8 rfl Try.ntmps8 (Nat.le_of_ble_eq_true rfl) ?_
  refine Go.seq ?_
  refine Go.region rfl ?_
  refine op_dst rfl rfl (by decide) (do_newBox (cs := [.int .i64 p0.1, .int .i64 p0.2.1, .int .i64 p0.2.2]) rfl rfl fun a1 H2 hb3 => ?_) 
  have h := h a1 H2 hb3
  refine op_dst rfl rfl (by decide) (do_new zero26 rfl fun a4 H5 hb6 => ?_) 
  have h := h a4 H5 hb6
  refine GoOps.nil ?_
  refine Go.seq ?_
  refine Go.seq ?_
  refine Go.region rfl ?_
  refine GoOps.q (v := .bool p1) rfl rfl (by decide) (q_move rfl) ?_
  refine GoOps.nil ?_
  rcases bor p1 with hc7 | hc7
  · have h := h.1 hc7
    refine Go.condT (btT rfl hc7) ?_
    refine Go.seq ?_
    refine Go.draw mixed ?_
    obtain ⟨a8, ha9, h⟩ := h
    refine plan_pure (i := 0) (d := 6) (S2 := 1) (v := .pointer (some a8)) rfl (by decide +kernel) rfl (q_idxA array22 ha9 rfl rfl) ?_
    obtain ⟨x10, hx11, h⟩ := h
    refine plan_load (i := 1) (d := 7) (S2 := 3) (v := .int .i64 x10) rfl (by decide +kernel) rfl (q_load scalar3 rfl hx11) ?_
    obtain ⟨a12, ha13, h⟩ := h
    refine plan_pure (i := 4) (d := 10) (S2 := 19) (v := .pointer (some a12)) rfl (by decide +kernel) rfl (q_idxA array22 ha13 rfl rfl) ?_
    obtain ⟨x14, hx15, h⟩ := h
    refine plan_load (i := 5) (d := 11) (S2 := 51) (v := .int .i64 x14) rfl (by decide +kernel) rfl (q_load scalar3 rfl hx15) ?_
    obtain ⟨a16, ha17, h⟩ := h
    refine plan_pure (i := 8) (d := 14) (S2 := 307) (v := .pointer (some a16)) rfl (by decide +kernel) rfl (q_idxA array22 ha17 rfl rfl) ?_
    obtain ⟨x18, hx19, h⟩ := h
    refine plan_load (i := 9) (d := 15) (S2 := 819) (v := .int .i64 x18) rfl (by decide +kernel) rfl (q_load scalar3 rfl hx19) ?_
    refine plan_one (j := 2) (S2 := 823) (by decide +kernel) rfl (by decide) rfl ?_
    refine do_call2 body11 (keelsonalike_Round_s _ _ _ _ h) rfl ?_
    rintro _ H20 ⟨y21, rfl, h⟩
    obtain ⟨hr22, h⟩ := h
    obtain ⟨hr23, h⟩ := h
    refine ⟨_, (.inr ⟨⟨_, _, rfl, rfl, q_load scalar3 rfl hr22⟩, _, rfl, .inr ⟨⟨_, _, rfl, rfl, q_load scalar3 rfl hr23⟩, _, rfl, .inl ⟨⟨[2], by decide +kernel, rfl⟩, rfl⟩⟩⟩), ?_⟩
    refine plan_pure (i := 3) (d := 9) (S2 := 831) (v := .int .i64 (IntKind.wrap .i64 (1 + y21))) rfl (by decide +kernel) rfl (q_add rfl rfl) ?_
    refine plan_one (j := 6) (S2 := 895) (by decide +kernel) rfl (by decide) rfl ?_
    refine do_call2 body11 (keelsonalike_Round_s _ _ _ _ h) rfl ?_
    rintro _ H24 ⟨y25, rfl, h⟩
    obtain ⟨hr26, h⟩ := h
    refine ⟨_, (.inr ⟨⟨_, _, rfl, rfl, q_load scalar3 rfl hr26⟩, _, rfl, .inl ⟨⟨[6], by decide +kernel, rfl⟩, rfl⟩⟩), ?_⟩
    refine plan_pure (i := 7) (d := 13) (S2 := 1023) (v := .int .i64 (IntKind.wrap .i64 (8 + y25))) rfl (by decide +kernel) rfl (q_add rfl rfl) ?_
    refine plan_one (j := 10) (S2 := 2047) (by decide +kernel) rfl (by decide) rfl ?_
    refine do_call2 body11 (keelsonalike_Round_s _ _ _ _ h) rfl ?_
    rintro _ H27 ⟨y28, rfl, h⟩
    refine ⟨_, (.inl ⟨⟨[10], by decide +kernel, rfl⟩, rfl⟩), ?_⟩
    refine plan_pure (i := 11) (d := 17) (S2 := 4095) (v := .int .i64 (IntKind.wrap .i64 (24 + y28))) rfl (by decide +kernel) rfl (q_add rfl rfl) ?_
    refine plan_pure (i := 12) (d := 18) (S2 := 8191) (v := .agg ([.int .i64 (IntKind.wrap .i64 (1 + y21)), .int .i64 (IntKind.wrap .i64 (8 + y25)), .int .i64 (IntKind.wrap .i64 (24 + y28))] : List Value).toArray) rfl (by decide +kernel) rfl (q_build (ps := [(0, .int .i64 (IntKind.wrap .i64 (1 + y21))), (1, .int .i64 (IntKind.wrap .i64 (8 + y25))), (2, .int .i64 (IntKind.wrap .i64 (24 + y28)))]) (cs := [.int .i64 (IntKind.wrap .i64 (1 + y21)), .int .i64 (IntKind.wrap .i64 (8 + y25)), .int .i64 (IntKind.wrap .i64 (24 + y28))]) places26 zero26 rfl rfl rfl) ?_
    refine plan_one (j := 13) (S2 := 16383) (by decide +kernel) rfl (by decide) rfl ?_
    obtain ⟨q30b, q30o, q30c, q30e, hq30a, hq30b, hq30l, hq30v, h⟩ := h
    refine do_store (vs := [.int .i64 (IntKind.wrap .i64 (1 + y21)), .int .i64 (IntKind.wrap .i64 (8 + y25)), .int .i64 (IntKind.wrap .i64 (24 + y28))]) size26 (pta rfl hq30a) rfl rfl rfl hq30v hq30b hq30l ?_
    refine ⟨_, rfl, ?_⟩
    refine plan_done (by decide +kernel) ?_
    obtain ⟨x31, hx32, h⟩ := h
    exact Go.ret ⟨.inl rfl, _, _, DOk.nil, (resOkV1 Try.results8 (rv_cellA aggr26 rfl hx32)), ⟨_, rfl, h⟩⟩
  · have h := h.2 hc7
    refine Go.condF (btF rfl hc7) ?_
    refine Go.skip ?_
    refine Go.seq ?_
    refine Go.draw mixed ?_
    obtain ⟨a33, ha34, h⟩ := h
    refine plan_pure (i := 0) (d := 19) (S2 := 1) (v := .pointer (some a33)) rfl (by decide +kernel) rfl (q_idxA array22 ha34 rfl rfl) ?_
    obtain ⟨x35, hx36, h⟩ := h
    refine plan_load (i := 1) (d := 20) (S2 := 3) (v := .int .i64 x35) rfl (by decide +kernel) rfl (q_load scalar3 rfl hx36) ?_
    obtain ⟨a37, ha38, h⟩ := h
    refine plan_pure (i := 4) (d := 23) (S2 := 19) (v := .pointer (some a37)) rfl (by decide +kernel) rfl (q_idxA array22 ha38 rfl rfl) ?_
    obtain ⟨x39, hx40, h⟩ := h
    refine plan_load (i := 5) (d := 24) (S2 := 51) (v := .int .i64 x39) rfl (by decide +kernel) rfl (q_load scalar3 rfl hx40) ?_
    obtain ⟨a41, ha42, h⟩ := h
    refine plan_pure (i := 8) (d := 27) (S2 := 307) (v := .pointer (some a41)) rfl (by decide +kernel) rfl (q_idxA array22 ha42 rfl rfl) ?_
    obtain ⟨x43, hx44, h⟩ := h
    refine plan_load (i := 9) (d := 28) (S2 := 819) (v := .int .i64 x43) rfl (by decide +kernel) rfl (q_load scalar3 rfl hx44) ?_
    refine plan_one (j := 2) (S2 := 823) (by decide +kernel) rfl (by decide) rfl ?_
    refine do_call2 body11 (keelsonalike_Round_s _ _ _ _ h) rfl ?_
    rintro _ H45 ⟨y46, rfl, h⟩
    obtain ⟨hr47, h⟩ := h
    obtain ⟨hr48, h⟩ := h
    refine ⟨_, (.inr ⟨⟨_, _, rfl, rfl, q_load scalar3 rfl hr47⟩, _, rfl, .inr ⟨⟨_, _, rfl, rfl, q_load scalar3 rfl hr48⟩, _, rfl, .inl ⟨⟨[2], by decide +kernel, rfl⟩, rfl⟩⟩⟩), ?_⟩
    refine plan_pure (i := 3) (d := 22) (S2 := 831) (v := .int .i64 (IntKind.wrap .i64 (1 + y46))) rfl (by decide +kernel) rfl (q_add rfl rfl) ?_
    refine plan_one (j := 6) (S2 := 895) (by decide +kernel) rfl (by decide) rfl ?_
    refine do_call2 body11 (keelsonalike_Round_s _ _ _ _ h) rfl ?_
    rintro _ H49 ⟨y50, rfl, h⟩
    obtain ⟨hr51, h⟩ := h
    refine ⟨_, (.inr ⟨⟨_, _, rfl, rfl, q_load scalar3 rfl hr51⟩, _, rfl, .inl ⟨⟨[6], by decide +kernel, rfl⟩, rfl⟩⟩), ?_⟩
    refine plan_pure (i := 7) (d := 26) (S2 := 1023) (v := .int .i64 (IntKind.wrap .i64 (8 + y50))) rfl (by decide +kernel) rfl (q_add rfl rfl) ?_
    refine plan_one (j := 10) (S2 := 2047) (by decide +kernel) rfl (by decide) rfl ?_
    refine do_call2 body11 (keelsonalike_Round_s _ _ _ _ h) rfl ?_
    rintro _ H52 ⟨y53, rfl, h⟩
    refine ⟨_, (.inl ⟨⟨[10], by decide +kernel, rfl⟩, rfl⟩), ?_⟩
    refine plan_pure (i := 11) (d := 30) (S2 := 4095) (v := .int .i64 (IntKind.wrap .i64 (24 + y53))) rfl (by decide +kernel) rfl (q_add rfl rfl) ?_
    refine plan_pure (i := 12) (d := 31) (S2 := 8191) (v := .agg ([.int .i64 (IntKind.wrap .i64 (1 + y46)), .int .i64 (IntKind.wrap .i64 (8 + y50)), .int .i64 (IntKind.wrap .i64 (24 + y53))] : List Value).toArray) rfl (by decide +kernel) rfl (q_build (ps := [(0, .int .i64 (IntKind.wrap .i64 (1 + y46))), (1, .int .i64 (IntKind.wrap .i64 (8 + y50))), (2, .int .i64 (IntKind.wrap .i64 (24 + y53)))]) (cs := [.int .i64 (IntKind.wrap .i64 (1 + y46)), .int .i64 (IntKind.wrap .i64 (8 + y50)), .int .i64 (IntKind.wrap .i64 (24 + y53))]) places26 zero26 rfl rfl rfl) ?_
    refine plan_one (j := 13) (S2 := 16383) (by decide +kernel) rfl (by decide) rfl ?_
    obtain ⟨q55b, q55o, q55c, q55e, hq55a, hq55b, hq55l, hq55v, h⟩ := h
    refine do_store (vs := [.int .i64 (IntKind.wrap .i64 (1 + y46)), .int .i64 (IntKind.wrap .i64 (8 + y50)), .int .i64 (IntKind.wrap .i64 (24 + y53))]) size26 (pta rfl hq55a) rfl rfl rfl hq55v hq55b hq55l ?_
    refine ⟨_, rfl, ?_⟩
    refine plan_done (by decide +kernel) ?_
    obtain ⟨x56, hx57, h⟩ := h
    exact Go.ret ⟨.inl rfl, _, _, DOk.nil, (resOkV1 Try.results8 (rv_cellA aggr26 rfl hx57)), ⟨_, rfl, h⟩⟩

/-- (*keelson.usage.Table).State -/
def usage_Table_State (p0 : Option Addr) (p1 : Int) (H : PH) (Q : Int → PH → Prop) : Prop :=
  usage_Table_has p0 p1 H fun y2 H1 =>
  mIf (!y2)
  (Q 0 H1)
  (mNil p0 fun a4 =>
  mLd Sl.v H1 (a4.add 1) fun x6 =>
  mIdx x6 2 p1 fun a8 =>
  mLd (.int .i64) H1 (a8.add 0) fun x10 =>
  Q x10 H1)

set_option maxRecDepth 20000 in
set_option maxHeartbeats 1000000 in
theorem usage_Table_State_s (p0 : Option Addr) (p1 : Int) (H : PH) (Q : Int → PH → Prop) (h : usage_Table_State p0 p1 H Q) :
    CallsH Try.prog 14 #[.pointer p0, .int .i64 p1] H (fun v H' => ∃ (r0 : Int), v = .int .i64 r0 ∧ Q r0 H') := by
  unfold usage_Table_State at h
  refine callsH_of_go Try.func14 rfl Try.ntmps14 (Nat.le_of_ble_eq_true rfl) ?_
  refine Go.seq ?_
  refine Go.region rfl ?_
  refine GoOps.q (v := .int .i64 0) rfl rfl (by decide) (q_assign rfl) ?_
  refine GoOps.nil ?_
  refine Go.seq ?_
  refine Go.seq ?_
  refine Go.region rfl ?_
  refine GoOps.q (v := .pointer p0) rfl rfl (by decide) (q_move rfl) ?_
  refine GoOps.q (v := .int .i64 p1) rfl rfl (by decide) (q_move rfl) ?_
  refine call_dst rfl (by decide) body39 (usage_Table_has_s _ _ _ _ h) rfl ?_
  rintro _ H1 ⟨y2, rfl, h⟩
  refine GoOps.q (v := .bool (!y2)) rfl rfl (by decide) (q_not rfl) ?_
  refine GoOps.nil ?_
  rcases bor (!y2) with hc3 | hc3
  · have h := h.1 hc3
    refine Go.condT (btT rfl hc3) ?_
    refine Go.seq ?_
    refine Go.region rfl ?_
    refine GoOps.q (v := .int .i64 0) rfl rfl (by decide) (q_assign rfl) ?_
    refine GoOps.nil ?_
    exact Go.ret ⟨.inl rfl, _, _, DOk.nil, (resOk1 Try.results14 rfl), ⟨_, rfl, h⟩⟩
  · have h := h.2 hc3
    refine Go.condF (btF rfl hc3) ?_
    refine Go.skip ?_
    refine Go.seq ?_
    refine Go.region rfl ?_
    refine GoOps.q (v := .pointer p0) rfl rfl (by decide) (q_move rfl) ?_
    obtain ⟨a4, ha5, h⟩ := h
    refine GoOps.q (v := .pointer (some a4)) rfl rfl (by decide) (q_nilCheck (ptn rfl ha5)) ?_
    refine GoOps.q (v := .pointer (some (a4.add 1))) rfl rfl (by decide) (q_fieldAddr foff71_1 rfl) ?_
    obtain ⟨x6, hx7, h⟩ := h
    refine GoOps.q (v := Sl.v x6) rfl rfl (by decide) (q_load scalar50 rfl hx7) ?_
    refine GoOps.q (v := .int .i64 p1) rfl rfl (by decide) (q_move rfl) ?_
    obtain ⟨a8, ha9, h⟩ := h
    refine GoOps.q (v := .pointer (some a8)) rfl rfl (by decide) (q_idx slice50 ha9 rfl rfl) ?_
    refine GoOps.q (v := .pointer (some (a8.add 0))) rfl rfl (by decide) (q_fieldAddr foff52_0 rfl) ?_
    obtain ⟨x10, hx11, h⟩ := h
    refine GoOps.q (v := .int .i64 x10) rfl rfl (by decide) (q_load scalar3 rfl hx11) ?_
    refine GoOps.q (v := .int .i64 x10) rfl rfl (by decide) (q_assign rfl) ?_
    refine GoOps.nil ?_
    exact Go.ret ⟨.inl rfl, _, _, DOk.nil, (resOk1 Try.results14 rfl), ⟨_, rfl, h⟩⟩


end Go.Proofs.Ytmgmjcjpmfdboaa

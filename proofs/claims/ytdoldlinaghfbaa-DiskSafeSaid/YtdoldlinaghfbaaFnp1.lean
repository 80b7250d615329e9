import Derived.Test.YtdoldlinaghfbaaProg
import Derived.Test.YtdoldlinaghfbaaKxF
import Derived.KernelRfl
set_option linter.unusedVariables false
set_option linter.unusedSimpArgs false
namespace Go.Proofs.Ytdoldlinaghfbaa
open Go Go.Kx Go.Proofs
theorem body32 : Body Try.prog 32 := body_of Try.func32 rfl rfl
theorem mixed : Try.prog.follows .mixedOrders = true := by kernel_rfl
theorem slice66 : SliceOf Try.prog 66 72 64 := ⟨Try.underlying66, by kernel_rfl⟩
theorem bytes72 : BytesOf Try.prog 72 64 := by unfold BytesOf; kernel_rfl
theorem zero72 : ZeroOf Try.prog 72 (.agg ((List.replicate 64 (.int .u8 0)) : List Value).toArray) := by unfold ZeroOf; kernel_rfl
theorem slice62 : SliceOf Try.prog 62 4 1 := ⟨Try.underlying62, by kernel_rfl⟩
theorem bytes4 : BytesOf Try.prog 4 1 := by unfold BytesOf; kernel_rfl
theorem zero4 : ZeroOf Try.prog 4 (.bool false) := by unfold ZeroOf; kernel_rfl
theorem places69 : PlacesOf Try.prog 69 [(0, 1), (1, 1), (2, 1), (3, 1), (4, 1), (5, 1), (6, 1)] := ⟨_, Try.underlying69, rfl, by kernel_rfl⟩
theorem zero69 : ZeroOf Try.prog 69 (.agg ([.slice none 0 0, .slice none 0 0, .slice none 0 0, .slice none 0 0, .int .i64 0, .int .i64 0, .bool false] : List Value).toArray) := by unfold ZeroOf; kernel_rfl
theorem slice28 : SliceOf Try.prog 28 5 1 := ⟨Try.underlying28, by kernel_rfl⟩
theorem bytes5 : BytesOf Try.prog 5 1 := by unfold BytesOf; kernel_rfl
theorem zero5 : ZeroOf Try.prog 5 (.int .u8 0) := by unfold ZeroOf; kernel_rfl
theorem size5 : (Try.prog.info? 5).map (·.size) = some 1 := by kernel_rfl
theorem body9 : Body Try.prog 9 := body_of Try.func9 rfl rfl
theorem foff69_1 : FieldOff Try.prog 69 1 1 := ⟨_, _, 1, Try.underlying69, rfl, rfl, by kernel_rfl, by decide⟩
theorem scalar66 : Scalar Try.prog 66 := ⟨_, Try.underlying66, trivial⟩
theorem foff69_5 : FieldOff Try.prog 69 5 5 := ⟨_, _, 1, Try.underlying69, rfl, rfl, by kernel_rfl, by decide⟩
theorem scalar3 : Scalar Try.prog 3 := ⟨_, Try.underlying3, trivial⟩
theorem size3 : (Try.prog.info? 3).map (·.size) = some 1 := by kernel_rfl
theorem foff69_6 : FieldOff Try.prog 69 6 6 := ⟨_, _, 1, Try.underlying69, rfl, rfl, by kernel_rfl, by decide⟩
theorem scalar4 : Scalar Try.prog 4 := ⟨_, Try.underlying4, trivial⟩
theorem size4 : (Try.prog.info? 4).map (·.size) = some 1 := by kernel_rfl
theorem foff69_4 : FieldOff Try.prog 69 4 4 := ⟨_, _, 1, Try.underlying69, rfl, rfl, by kernel_rfl, by decide⟩
theorem foff69_2 : FieldOff Try.prog 69 2 2 := ⟨_, _, 1, Try.underlying69, rfl, rfl, by kernel_rfl, by decide⟩
theorem scalar67 : Scalar Try.prog 67 := ⟨_, Try.underlying67, trivial⟩
theorem array72 : ArrayOf Try.prog 72 64 5 1 := ⟨Try.underlying72, by kernel_rfl⟩
theorem aggr72 : Aggr Try.prog 72 64 := ⟨⟨_, Try.underlying72, trivial⟩, by kernel_rfl⟩
theorem places74 : PlacesOf Try.prog 74 [(0, 1), (1, 64)] := ⟨_, Try.underlying74, rfl, by kernel_rfl⟩
theorem zero74 : ZeroOf Try.prog 74 (.agg ([.int .i64 0, .int .u8 0, .int .u8 0, .int .u8 0, .int .u8 0, .int .u8 0, .int .u8 0, .int .u8 0, .int .u8 0, .int .u8 0, .int .u8 0, .int .u8 0, .int .u8 0, .int .u8 0, .int .u8 0, .int .u8 0, .int .u8 0, .int .u8 0, .int .u8 0, .int .u8 0, .int .u8 0, .int .u8 0, .int .u8 0, .int .u8 0, .int .u8 0, .int .u8 0, .int .u8 0, .int .u8 0, .int .u8 0, .int .u8 0, .int .u8 0, .int .u8 0, .int .u8 0, .int .u8 0, .int .u8 0, .int .u8 0, .int .u8 0, .int .u8 0, .int .u8 0, .int .u8 0, .int .u8 0, .int .u8 0, .int .u8 0, .int .u8 0, .int .u8 0, .int .u8 0, .int .u8 0, .int .u8 0, .int .u8 0, .int .u8 0, .int .u8 0, .int .u8 0, .int .u8 0, .int .u8 0, .int .u8 0, .int .u8 0, .int .u8 0, .int .u8 0, .int .u8 0, .int .u8 0, .int .u8 0, .int .u8 0, .int .u8 0, .int .u8 0, .int .u8 0] : List Value).toArray) := by unfold ZeroOf; kernel_rfl
theorem slice67 : SliceOf Try.prog 67 74 65 := ⟨Try.underlying67, by kernel_rfl⟩
theorem bytes74 : BytesOf Try.prog 74 72 := by unfold BytesOf; kernel_rfl
theorem size67 : (Try.prog.info? 67).map (·.size) = some 1 := by kernel_rfl
theorem size72 : (Try.prog.info? 72).map (·.size) = some 64 := by kernel_rfl
theorem body34 : Body Try.prog 34 := body_of Try.func34 rfl rfl
theorem body33 : Body Try.prog 33 := body_of Try.func33 rfl rfl
theorem foff69_3 : FieldOff Try.prog 69 3 3 := ⟨_, _, 1, Try.underlying69, rfl, rfl, by kernel_rfl, by decide⟩
theorem scalar62 : Scalar Try.prog 62 := ⟨_, Try.underlying62, trivial⟩
theorem body35 : Body Try.prog 35 := body_of Try.func35 rfl rfl
theorem scalar5 : Scalar Try.prog 5 := ⟨_, Try.underlying5, trivial⟩
theorem body36 : Body Try.prog 36 := body_of Try.func36 rfl rfl
theorem foff69_0 : FieldOff Try.prog 69 0 0 := ⟨_, _, 1, Try.underlying69, rfl, rfl, by kernel_rfl, by decide⟩
theorem aggr74 : Aggr Try.prog 74 65 := ⟨⟨_, Try.underlying74, trivial⟩, by kernel_rfl⟩
theorem size74 : (Try.prog.info? 74).map (·.size) = some 65 := by kernel_rfl
theorem foff74_0 : FieldOff Try.prog 74 0 0 := ⟨_, _, 1, Try.underlying74, rfl, rfl, by kernel_rfl, by decide⟩
theorem foff74_1 : FieldOff Try.prog 74 1 1 := ⟨_, _, 64, Try.underlying74, rfl, rfl, by kernel_rfl, by decide⟩
theorem slice37 : SliceOf Try.prog 37 3 1 := ⟨Try.underlying37, by kernel_rfl⟩
theorem size66 : (Try.prog.info? 66).map (·.size) = some 1 := by kernel_rfl
theorem body37 : Body Try.prog 37 := body_of Try.func37 rfl rfl
theorem body38 : Body Try.prog 38 := body_of Try.func38 rfl rfl
theorem zero3 : ZeroOf Try.prog 3 (.int .i64 0) := by unfold ZeroOf; kernel_rfl
theorem body16 : Body Try.prog 16 := body_of Try.func16 rfl rfl
theorem body21 : Body Try.prog 21 := body_of Try.func21 rfl rfl
theorem body19 : Body Try.prog 19 := body_of Try.func19 rfl rfl
theorem body15 : Body Try.prog 15 := body_of Try.func15 rfl rfl
theorem body12 : Body Try.prog 12 := body_of Try.func12 rfl rfl
theorem body14 : Body Try.prog 14 := body_of Try.func14 rfl rfl
theorem body11 : Body Try.prog 11 := body_of Try.func11 rfl rfl
theorem body10 : Body Try.prog 10 := body_of Try.func10 rfl rfl
theorem body17 : Body Try.prog 17 := body_of Try.func17 rfl rfl
theorem body13 : Body Try.prog 13 := body_of Try.func13 rfl rfl
theorem body18 : Body Try.prog 18 := body_of Try.func18 rfl rfl
theorem zero40 : ZeroOf Try.prog 40 (.agg ([.slice none 0 0, .slice none 0 0, .slice none 0 0, .slice none 0 0, .slice none 0 0, .slice none 0 0, .slice none 0 0, .slice none 0 0] : List Value).toArray) := by unfold ZeroOf; kernel_rfl
theorem array40 : ArrayOf Try.prog 40 8 28 1 := ⟨Try.underlying40, by kernel_rfl⟩
theorem size28 : (Try.prog.info? 28).map (·.size) = some 1 := by kernel_rfl
theorem scalar28 : Scalar Try.prog 28 := ⟨_, Try.underlying28, trivial⟩
theorem zero42 : ZeroOf Try.prog 42 (.agg ([.slice none 0 0, .slice none 0 0, .slice none 0 0, .slice none 0 0, .slice none 0 0, .slice none 0 0, .slice none 0 0, .slice none 0 0] : List Value).toArray) := by unfold ZeroOf; kernel_rfl
theorem array42 : ArrayOf Try.prog 42 8 41 1 := ⟨Try.underlying42, by kernel_rfl⟩
theorem scalar41 : Scalar Try.prog 41 := ⟨_, Try.underlying41, trivial⟩
theorem slice41 : SliceOf Try.prog 41 28 1 := ⟨Try.underlying41, by kernel_rfl⟩
theorem zero28 : ZeroOf Try.prog 28 (.slice none 0 0) := by unfold ZeroOf; kernel_rfl
theorem bytes28 : BytesOf Try.prog 28 24 := by unfold BytesOf; kernel_rfl
theorem size41 : (Try.prog.info? 41).map (·.size) = some 1 := by kernel_rfl
theorem body20 : Body Try.prog 20 := body_of Try.func20 rfl rfl
theorem body22 : Body Try.prog 22 := body_of Try.func22 rfl rfl
theorem places64 : PlacesOf Try.prog 64 [(0, 1), (1, 1), (2, 1), (3, 1), (4, 1), (5, 1), (6, 1)] := ⟨_, Try.underlying64, rfl, by kernel_rfl⟩
theorem zero64 : ZeroOf Try.prog 64 (.agg ([.slice none 0 0, .slice none 0 0, .slice none 0 0, .int .i64 0, .bool false, .int .i64 0, .slice none 0 0] : List Value).toArray) := by unfold ZeroOf; kernel_rfl
theorem foff64_0 : FieldOff Try.prog 64 0 0 := ⟨_, _, 1, Try.underlying64, rfl, rfl, by kernel_rfl, by decide⟩
theorem body39 : Body Try.prog 39 := body_of Try.func39 rfl rfl
theorem body28 : Body Try.prog 28 := body_of Try.func28 rfl rfl
theorem foff64_5 : FieldOff Try.prog 64 5 5 := ⟨_, _, 1, Try.underlying64, rfl, rfl, by kernel_rfl, by decide⟩
theorem foff64_4 : FieldOff Try.prog 64 4 4 := ⟨_, _, 1, Try.underlying64, rfl, rfl, by kernel_rfl, by decide⟩
theorem foff64_3 : FieldOff Try.prog 64 3 3 := ⟨_, _, 1, Try.underlying64, rfl, rfl, by kernel_rfl, by decide⟩
theorem foff64_1 : FieldOff Try.prog 64 1 1 := ⟨_, _, 1, Try.underlying64, rfl, rfl, by kernel_rfl, by decide⟩
theorem scalar61 : Scalar Try.prog 61 := ⟨_, Try.underlying61, trivial⟩
theorem places80 : PlacesOf Try.prog 80 [(0, 1), (1, 1)] := ⟨_, Try.underlying80, rfl, by kernel_rfl⟩
theorem zero80 : ZeroOf Try.prog 80 (.agg ([.int .i64 0, .slice none 0 0] : List Value).toArray) := by unfold ZeroOf; kernel_rfl
theorem slice61 : SliceOf Try.prog 61 80 2 := ⟨Try.underlying61, by kernel_rfl⟩
theorem bytes80 : BytesOf Try.prog 80 32 := by unfold BytesOf; kernel_rfl
theorem size61 : (Try.prog.info? 61).map (·.size) = some 1 := by kernel_rfl
theorem body41 : Body Try.prog 41 := body_of Try.func41 rfl rfl
theorem body40 : Body Try.prog 40 := body_of Try.func40 rfl rfl
theorem foff64_6 : FieldOff Try.prog 64 6 6 := ⟨_, _, 1, Try.underlying64, rfl, rfl, by kernel_rfl, by decide⟩
theorem foff64_2 : FieldOff Try.prog 64 2 2 := ⟨_, _, 1, Try.underlying64, rfl, rfl, by kernel_rfl, by decide⟩
theorem foff80_0 : FieldOff Try.prog 80 0 0 := ⟨_, _, 1, Try.underlying80, rfl, rfl, by kernel_rfl, by decide⟩
theorem foff80_1 : FieldOff Try.prog 80 1 1 := ⟨_, _, 1, Try.underlying80, rfl, rfl, by kernel_rfl, by decide⟩
theorem body29 : Body Try.prog 29 := body_of Try.func29 rfl rfl
theorem body42 : Body Try.prog 42 := body_of Try.func42 rfl rfl
theorem body24 : Body Try.prog 24 := body_of Try.func24 rfl rfl
theorem body27 : Body Try.prog 27 := body_of Try.func27 rfl rfl
theorem body26 : Body Try.prog 26 := body_of Try.func26 rfl rfl
theorem body25 : Body Try.prog 25 := body_of Try.func25 rfl rfl
theorem body23 : Body Try.prog 23 := body_of Try.func23 rfl rfl
theorem slice54 : SliceOf Try.prog 54 57 4 := ⟨Try.underlying54, by kernel_rfl⟩
theorem aggr57 : Aggr Try.prog 57 4 := ⟨⟨_, Try.underlying57, trivial⟩, by kernel_rfl⟩
theorem zero57 : ZeroOf Try.prog 57 (.agg ([.int .i64 0, .int .i64 0, .int .i64 0, .slice none 0 0] : List Value).toArray) := by unfold ZeroOf; kernel_rfl
theorem size57 : (Try.prog.info? 57).map (·.size) = some 4 := by kernel_rfl
theorem foff57_3 : FieldOff Try.prog 57 3 3 := ⟨_, _, 1, Try.underlying57, rfl, rfl, by kernel_rfl, by decide⟩
theorem scalar37 : Scalar Try.prog 37 := ⟨_, Try.underlying37, trivial⟩
theorem foff57_0 : FieldOff Try.prog 57 0 0 := ⟨_, _, 1, Try.underlying57, rfl, rfl, by kernel_rfl, by decide⟩
theorem foff57_1 : FieldOff Try.prog 57 1 1 := ⟨_, _, 1, Try.underlying57, rfl, rfl, by kernel_rfl, by decide⟩
theorem foff57_2 : FieldOff Try.prog 57 2 2 := ⟨_, _, 1, Try.underlying57, rfl, rfl, by kernel_rfl, by decide⟩
theorem body30 : Body Try.prog 30 := body_of Try.func30 rfl rfl
theorem body31 : Body Try.prog 31 := body_of Try.func31 rfl rfl

/-- keelson.keelsonref1.Mod -/
def keelsonref1_Mod (p0 : Int) (p1 : Int) (H : PH) (Q : Int → PH → Prop) : Prop :=
  mNe p1 <|
  mJoin (fun (s2 : Int) (H4 : PH) =>
  Q s2 H4)
  fun j3 =>
  mIf (decide ((Int.tmod p0 p1) < 0))
  (j3 (IntKind.wrap .i64 ((Int.tmod p0 p1) + p1)) H)
  (j3 (Int.tmod p0 p1) H)

set_option maxRecDepth 20000 in
set_option maxHeartbeats 1000000 in
theorem keelsonref1_Mod_s (p0 : Int) (p1 : Int) (H : PH) (Q : Int → PH → Prop) (h : keelsonref1_Mod p0 p1 H Q) :
    CallsH Try.prog 32 #[.int .i64 p0, .int .i64 p1] H (fun v H' => ∃ (r0 : Int), v = .int .i64 r0 ∧ Q r0 H') := by
  unfold keelsonref1_Mod at h
  refine callsH_of_go Try.func32 rfl Try.ntmps32 (Nat.le_of_ble_eq_true rfl) ?_
  refine Go.seq ?_
  refine Go.region rfl ?_
  refine GoOps.q (v := .int .i64 0) rfl rfl (by decide) (q_assign rfl) ?_
  refine GoOps.nil ?_
  refine Go.seq ?_
  refine Go.region rfl ?_
  refine GoOps.q (v := .int .i64 p0) rfl rfl (by decide) (q_move rfl) ?_
  refine GoOps.q (v := .int .i64 p1) rfl rfl (by decide) (q_move rfl) ?_
  obtain ⟨hn1, h⟩ := h
  refine GoOps.q (v := .int .i64 (Int.tmod p0 p1)) rfl rfl (by decide) (q_rem hn1 rfl rfl) ?_
  refine GoOps.q (v := .int .i64 (Int.tmod p0 p1)) rfl rfl (by decide) (q_assign rfl) ?_
  refine GoOps.nil ?_
  refine Go.seq ?_
  refine Go.seq ?_
  refine Go.region rfl ?_
  refine GoOps.q (v := .int .i64 (Int.tmod p0 p1)) rfl rfl (by decide) (q_move rfl) ?_
  refine GoOps.q (v := .bool (decide ((Int.tmod p0 p1) < 0))) rfl rfl (by decide) (q_lss rfl rfl) ?_
  refine GoOps.nil ?_
  refine join_go 1 (fun ρ (s2 : Int) => ρ 5 = .int .i64 s2) h ?_ ?_ <;> clear h
  · intro s2 H4 ρ h hE
    have e5_5 := hE
    refine Go.seq ?_
    refine Go.region rfl ?_
    refine GoOps.q (v := .int .i64 s2) rfl rfl (by decide) (q_move e5_5) ?_
    refine GoOps.q (v := .int .i64 s2) rfl rfl (by decide) (q_assign rfl) ?_
    refine GoOps.nil ?_
    exact Go.ret ⟨.inl rfl, _, _, DOk.nil, (resOk1 Try.results32 rfl), ⟨_, rfl, h⟩⟩
  · intro j3 hj3 h
    rcases bor (decide ((Int.tmod p0 p1) < 0)) with hc6 | hc6
    · have h := h.1 hc6
      refine Go.condT (btT rfl hc6) ?_
      refine Go.region rfl ?_
      refine GoOps.q (v := .int .i64 (Int.tmod p0 p1)) rfl rfl (by decide) (q_move rfl) ?_
      refine GoOps.q (v := .int .i64 p1) rfl rfl (by decide) (q_move rfl) ?_
      refine GoOps.q (v := .int .i64 (IntKind.wrap .i64 ((Int.tmod p0 p1) + p1))) rfl rfl (by decide) (q_add rfl rfl) ?_
      refine GoOps.q (v := .int .i64 (IntKind.wrap .i64 ((Int.tmod p0 p1) + p1))) rfl rfl (by decide) (q_assign rfl) ?_
      refine GoOps.nil ?_
      exact hj3 _ _ _ h rfl
    · have h := h.2 hc6
      refine Go.condF (btF rfl hc6) ?_
      refine Go.skip ?_
      exact hj3 _ _ _ h rfl

/-- keelson.keelsonalike.Round -/
def keelsonalike_Round (p0 : Int) (p1 : Int) (H : PH) (Q : Int → PH → Prop) : Prop :=
  keelsonref1_Mod p0 p1 H fun y2 H1 =>
  Q y2 H1

set_option maxRecDepth 20000 in
set_option maxHeartbeats 1000000 in
theorem keelsonalike_Round_s (p0 : Int) (p1 : Int) (H : PH) (Q : Int → PH → Prop) (h : keelsonalike_Round p0 p1 H Q) :
    CallsH Try.prog 9 #[.int .i64 p0, .int .i64 p1] H (fun v H' => ∃ (r0 : Int), v = .int .i64 r0 ∧ Q r0 H') := by
  unfold keelsonalike_Round at h
  refine callsH_of_go Try.func9 rfl Try.ntmps9 (Nat.le_of_ble_eq_true rfl) ?_
  refine Go.seq ?_
  refine Go.region rfl ?_
  refine GoOps.q (v := .int .i64 0) rfl rfl (by decide) (q_assign rfl) ?_
  refine GoOps.nil ?_
  refine Go.seq ?_
  refine Go.region rfl ?_
  refine GoOps.q (v := .int .i64 p0) rfl rfl (by decide) (q_move rfl) ?_
  refine GoOps.q (v := .int .i64 p1) rfl rfl (by decide) (q_move rfl) ?_
  refine call_dst rfl (by decide) body32 (keelsonref1_Mod_s _ _ _ _ h) rfl ?_
  rintro _ H1 ⟨y2, rfl, h⟩
  refine GoOps.q (v := .int .i64 y2) rfl rfl (by decide) (q_assign rfl) ?_
  refine GoOps.nil ?_
  exact Go.ret ⟨.inl rfl, _, _, DOk.nil, (resOk1 Try.results9 rfl), ⟨_, rfl, h⟩⟩

/-- keelson.vdisk.New -/
def vdisk_New (p0 : Int) (H : PH) (Q : Option Addr → Int → PH → Prop) : Prop :=
  mJoin (fun (s2 : Bool) (H4 : PH) =>
  mIf s2
  (Q none 1 H4)
  (mBoth (MkOk 64 p0 p0) <|
  mBoth (MkOk 64 p0 p0) <|
  mBoth (MkOk 1 p0 p0) <|
  mNewSI H4 (row (zeros (p0 : Int).toNat (List.replicate 64 (.int .u8 0))) 72) p0 p0 fun r10 H11 =>
  mNewSI H11 (row (zeros (p0 : Int).toNat (List.replicate 64 (.int .u8 0))) 72) p0 p0 fun r13 H14 =>
  mNewSI H14 (row (zeros (p0 : Int).toNat [.bool false]) 4) p0 p0 fun r16 H17 =>
  mNew H17 (row [Sl.v r10, Sl.v r13, Sl.v Sl.nil, Sl.v r16, .int .i64 (-1), .int .i64 0, .bool false] 69) fun a19 H20 =>
  Q (some a19) 0 H20))
  fun j3 =>
  mIf (decide (p0 < 1))
  (j3 true H)
  (j3 (decide (4096 < p0)) H)

set_option maxRecDepth 20000 in
set_option maxHeartbeats 1000000 in
theorem vdisk_New_s (p0 : Int) (H : PH) (Q : Option Addr → Int → PH → Prop) (h : vdisk_New p0 H Q) :
    CallsH Try.prog 10 #[.int .i64 p0] H (fun v H' => ∃ (r0 : Option Addr) (r1 : Int), v = .tuple #[.pointer r0, .int .i64 r1] ∧ Q r0 r1 H') := by
  unfold vdisk_New at h
  refine callsH_of_go Try.func10 rfl Try.ntmps10 (Nat.le_of_ble_eq_true rfl) ?_
  refine Go.seq ?_
  refine Go.region rfl ?_
  refine GoOps.q (v := .pointer none) rfl rfl (by decide) (q_assign rfl) ?_
  refine GoOps.q (v := .int .i64 0) rfl rfl (by decide) (q_assign rfl) ?_
  refine GoOps.nil ?_
  refine Go.seq ?_
  refine Go.seq ?_
  refine Go.region rfl ?_
  refine GoOps.q (v := .int .i64 p0) rfl rfl (by decide) (q_move rfl) ?_
  refine GoOps.q (v := .bool (decide (p0 < 1))) rfl rfl (by decide) (q_lss rfl rfl) ?_
  refine GoOps.q (v := .bool (decide (p0 < 1))) rfl rfl (by decide) (q_move rfl) ?_
  refine join_ops 3 (fun ρ (s2 : Bool) => ρ 0 = .int .i64 p0 ∧ ρ 9 = .bool s2) h ?_ ?_ <;> clear h
  · intro s2 H4 ρ h hE
    obtain ⟨e5_0, e5_9⟩ := hE
    refine GoOps.nil ?_
    rcases bor s2 with hc6 | hc6
    · have h := h.1 hc6
      refine Go.condT (btT e5_9 hc6) ?_
      refine Go.seq ?_
      refine Go.region rfl ?_
      refine GoOps.q (v := .pointer none) rfl rfl (by decide) (q_assign rfl) ?_
      refine GoOps.q (v := .int .i64 1) rfl rfl (by decide) (q_assign rfl) ?_
      refine GoOps.nil ?_
      exact Go.ret ⟨.inl rfl, _, _, DOk.nil, (resOk2 Try.results10 rfl rfl), ⟨_, _, rfl, h⟩⟩
    · have h := h.2 hc6
      refine Go.condF (btF e5_9 hc6) ?_
      refine Go.skip ?_
      refine Go.seq ?_
      refine Go.draw mixed ?_
      refine plan_pure (i := 0) (d := 10) (S2 := 1) (v := .int .i64 p0) rfl (by decide +kernel) rfl (q_move e5_0) ?_
      refine plan_pure (i := 2) (d := 12) (S2 := 5) (v := .int .i64 p0) rfl (by decide +kernel) rfl (q_move e5_0) ?_
      refine plan_pure (i := 4) (d := 14) (S2 := 21) (v := .int .i64 p0) rfl (by decide +kernel) rfl (q_move e5_0) ?_
      obtain ⟨hm7, h⟩ := h
      obtain ⟨hm8, h⟩ := h
      obtain ⟨hm9, h⟩ := h
      refine plan_step (R := [1, 3, 5]) (by decide +kernel) ⟨?_, ?_, ?_, trivial⟩
      · refine pstep_yes (S2 := 23) rfl (by decide +kernel) (by decide) rfl ?_
        refine do_mk (zs := (List.replicate 64 (.int .u8 0))) slice66 bytes72 (by decide) zero72 rfl rfl (by decide) rfl rfl hm7 fun r10 H11 hb12 => ?_
        have h := h r10 H11 hb12
        refine ⟨_, rfl, ?_⟩
        refine plan_step (R := [3, 5]) (by decide +kernel) ⟨?_, ?_, trivial⟩
        · refine pstep_yes (S2 := 31) rfl (by decide +kernel) (by decide) rfl ?_
          refine do_mk (zs := (List.replicate 64 (.int .u8 0))) slice66 bytes72 (by decide) zero72 rfl rfl (by decide) rfl rfl hm8 fun r13 H14 hb15 => ?_
          have h := h r13 H14 hb15
          refine ⟨_, rfl, ?_⟩
          refine plan_one (j := 5) (S2 := 63) (by decide +kernel) rfl (by decide) rfl ?_
          refine do_mk (zs := [.bool false]) slice62 bytes4 (by decide) zero4 rfl rfl (by decide) rfl rfl hm9 fun r16 H17 hb18 => ?_
          have h := h r16 H17 hb18
          refine ⟨_, rfl, ?_⟩
          refine plan_pure (i := 6) (d := 16) (S2 := 127) (v := .agg ([Sl.v r10, Sl.v r13, Sl.v Sl.nil, Sl.v r16, .int .i64 (-1), .int .i64 0, .bool false] : List Value).toArray) rfl (by decide +kernel) rfl (q_build (ps := [(0, Sl.v r10), (1, Sl.v r13), (3, Sl.v r16), (4, .int .i64 (-1))]) (cs := [Sl.v r10, Sl.v r13, Sl.v Sl.nil, Sl.v r16, .int .i64 (-1), .int .i64 0, .bool false]) places69 zero69 rfl rfl rfl) ?_
          refine plan_one (j := 7) (S2 := 255) (by decide +kernel) rfl (by decide) rfl ?_
          refine do_newBox (cs := [Sl.v r10, Sl.v r13, Sl.v Sl.nil, Sl.v r16, .int .i64 (-1), .int .i64 0, .bool false]) rfl rfl fun a19 H20 hb21 => ?_
          have h := h a19 H20 hb21
          refine ⟨_, rfl, ?_⟩
          refine plan_pure (i := 8) (d := 2) (S2 := 511) (v := .pointer (some a19)) rfl (by decide +kernel) rfl (q_assign rfl) ?_
          refine plan_pure (i := 9) (d := 3) (S2 := 1023) (v := .int .i64 0) rfl (by decide +kernel) rfl (q_assign rfl) ?_
          refine plan_done (by decide +kernel) ?_
          exact Go.ret ⟨.inl rfl, _, _, DOk.nil, (resOk2 Try.results10 rfl rfl), ⟨_, _, rfl, h⟩⟩
        · refine pstep_yes (S2 := 55) rfl (by decide +kernel) (by decide) rfl ?_
          refine do_mkT (zs := [.bool false]) slice62 bytes4 (by decide) zero4 rfl rfl (by decide) rfl rfl hm9 fun b23 r22 hHb23 hTb23 hrb23 => ?_
          refine ⟨_, rfl, ?_⟩
          refine plan_one (j := 3) (S2 := 63) (by decide +kernel) rfl (by decide) rfl ?_
          refine do_mk (zs := (List.replicate 64 (.int .u8 0))) slice66 bytes72 (by decide) zero72 rfl rfl (by decide) rfl rfl hm8 fun r24 H25 hb26 => ?_
          have h := h r24 H25 hb26
          refine ⟨_, rfl, ?_⟩
          refine plan_commit hTb23 fun hh28 => ?_
          have h := h r22 _ ⟨b23, hh28, hrb23, rfl⟩
          refine plan_pure (i := 6) (d := 16) (S2 := 127) (v := .agg ([Sl.v r10, Sl.v r24, Sl.v Sl.nil, Sl.v r22, .int .i64 (-1), .int .i64 0, .bool false] : List Value).toArray) rfl (by decide +kernel) rfl (q_build (ps := [(0, Sl.v r10), (1, Sl.v r24), (3, Sl.v r22), (4, .int .i64 (-1))]) (cs := [Sl.v r10, Sl.v r24, Sl.v Sl.nil, Sl.v r22, .int .i64 (-1), .int .i64 0, .bool false]) places69 zero69 rfl rfl rfl) ?_
          refine plan_one (j := 7) (S2 := 255) (by decide +kernel) rfl (by decide) rfl ?_
          refine do_newBox (cs := [Sl.v r10, Sl.v r24, Sl.v Sl.nil, Sl.v r22, .int .i64 (-1), .int .i64 0, .bool false]) rfl rfl fun a29 H30 hb31 => ?_
          have h := h a29 H30 hb31
          refine ⟨_, rfl, ?_⟩
          refine plan_pure (i := 8) (d := 2) (S2 := 511) (v := .pointer (some a29)) rfl (by decide +kernel) rfl (q_assign rfl) ?_
          refine plan_pure (i := 9) (d := 3) (S2 := 1023) (v := .int .i64 0) rfl (by decide +kernel) rfl (q_assign rfl) ?_
          refine plan_done (by decide +kernel) ?_
          exact Go.ret ⟨.inl rfl, _, _, DOk.nil, (resOk2 Try.results10 rfl rfl), ⟨_, _, rfl, h⟩⟩
      · refine pstep_yes (S2 := 29) rfl (by decide +kernel) (by decide) rfl ?_
        refine do_mkT (zs := (List.replicate 64 (.int .u8 0))) slice66 bytes72 (by decide) zero72 rfl rfl (by decide) rfl rfl hm8 fun b33 r32 hHb33 hTb33 hrb33 => ?_
        refine ⟨_, rfl, ?_⟩
        refine plan_step (R := [1, 5]) (by decide +kernel) ⟨?_, ?_, trivial⟩
        · refine pstep_yes (S2 := 31) rfl (by decide +kernel) (by decide) rfl ?_
          refine do_mk (zs := (List.replicate 64 (.int .u8 0))) slice66 bytes72 (by decide) zero72 rfl rfl (by decide) rfl rfl hm7 fun r34 H35 hb36 => ?_
          have h := h r34 H35 hb36
          refine ⟨_, rfl, ?_⟩
          refine plan_commit hTb33 fun hh38 => ?_
          have h := h r32 _ ⟨b33, hh38, hrb33, rfl⟩
          refine plan_one (j := 5) (S2 := 63) (by decide +kernel) rfl (by decide) rfl ?_
          refine do_mk (zs := [.bool false]) slice62 bytes4 (by decide) zero4 rfl rfl (by decide) rfl rfl hm9 fun r39 H40 hb41 => ?_
          have h := h r39 H40 hb41
          refine ⟨_, rfl, ?_⟩
          refine plan_pure (i := 6) (d := 16) (S2 := 127) (v := .agg ([Sl.v r34, Sl.v r32, Sl.v Sl.nil, Sl.v r39, .int .i64 (-1), .int .i64 0, .bool false] : List Value).toArray) rfl (by decide +kernel) rfl (q_build (ps := [(0, Sl.v r34), (1, Sl.v r32), (3, Sl.v r39), (4, .int .i64 (-1))]) (cs := [Sl.v r34, Sl.v r32, Sl.v Sl.nil, Sl.v r39, .int .i64 (-1), .int .i64 0, .bool false]) places69 zero69 rfl rfl rfl) ?_
          refine plan_one (j := 7) (S2 := 255) (by decide +kernel) rfl (by decide) rfl ?_
          refine do_newBox (cs := [Sl.v r34, Sl.v r32, Sl.v Sl.nil, Sl.v r39, .int .i64 (-1), .int .i64 0, .bool false]) rfl rfl fun a42 H43 hb44 => ?_
          have h := h a42 H43 hb44
          refine ⟨_, rfl, ?_⟩
          refine plan_pure (i := 8) (d := 2) (S2 := 511) (v := .pointer (some a42)) rfl (by decide +kernel) rfl (q_assign rfl) ?_
          refine plan_pure (i := 9) (d := 3) (S2 := 1023) (v := .int .i64 0) rfl (by decide +kernel) rfl (q_assign rfl) ?_
          refine plan_done (by decide +kernel) ?_
          exact Go.ret ⟨.inl rfl, _, _, DOk.nil, (resOk2 Try.results10 rfl rfl), ⟨_, _, rfl, h⟩⟩
        · refine pstep_yes (S2 := 61) rfl (by decide +kernel) (by decide) rfl ?_
          refine do_mkT (zs := [.bool false]) slice62 bytes4 (by decide) zero4 rfl rfl (by decide) rfl rfl hm9 fun b46 r45 hHb46 hTb46 hrb46 => ?_
          refine ⟨_, rfl, ?_⟩
          refine plan_one (j := 1) (S2 := 63) (by decide +kernel) rfl (by decide) rfl ?_
          refine do_mk (zs := (List.replicate 64 (.int .u8 0))) slice66 bytes72 (by decide) zero72 rfl rfl (by decide) rfl rfl hm7 fun r47 H48 hb49 => ?_
          have h := h r47 H48 hb49
          refine ⟨_, rfl, ?_⟩
          refine plan_commit2 (Ne.symm (upd_none hTb46).1) hTb33 fun hh51 => ?_
          have hTb46 := (upd_none hTb46).2
          have h := h r32 _ ⟨b33, hh51, hrb33, rfl⟩
          refine plan_commit hTb46 fun hh53 => ?_
          have h := h r45 _ ⟨b46, hh53, hrb46, rfl⟩
          refine plan_pure (i := 6) (d := 16) (S2 := 127) (v := .agg ([Sl.v r47, Sl.v r32, Sl.v Sl.nil, Sl.v r45, .int .i64 (-1), .int .i64 0, .bool false] : List Value).toArray) rfl (by decide +kernel) rfl (q_build (ps := [(0, Sl.v r47), (1, Sl.v r32), (3, Sl.v r45), (4, .int .i64 (-1))]) (cs := [Sl.v r47, Sl.v r32, Sl.v Sl.nil, Sl.v r45, .int .i64 (-1), .int .i64 0, .bool false]) places69 zero69 rfl rfl rfl) ?_
          refine plan_one (j := 7) (S2 := 255) (by decide +kernel) rfl (by decide) rfl ?_
          refine do_newBox (cs := [Sl.v r47, Sl.v r32, Sl.v Sl.nil, Sl.v r45, .int .i64 (-1), .int .i64 0, .bool false]) rfl rfl fun a54 H55 hb56 => ?_
          have h := h a54 H55 hb56
          refine ⟨_, rfl, ?_⟩
          refine plan_pure (i := 8) (d := 2) (S2 := 511) (v := .pointer (some a54)) rfl (by decide +kernel) rfl (q_assign rfl) ?_
          refine plan_pure (i := 9) (d := 3) (S2 := 1023) (v := .int .i64 0) rfl (by decide +kernel) rfl (q_assign rfl) ?_
          refine plan_done (by decide +kernel) ?_
          exact Go.ret ⟨.inl rfl, _, _, DOk.nil, (resOk2 Try.results10 rfl rfl), ⟨_, _, rfl, h⟩⟩
      · refine pstep_yes (S2 := 53) rfl (by decide +kernel) (by decide) rfl ?_
        refine do_mkT (zs := [.bool false]) slice62 bytes4 (by decide) zero4 rfl rfl (by decide) rfl rfl hm9 fun b58 r57 hHb58 hTb58 hrb58 => ?_
        refine ⟨_, rfl, ?_⟩
        refine plan_step (R := [1, 3]) (by decide +kernel) ⟨?_, ?_, trivial⟩
        · refine pstep_yes (S2 := 55) rfl (by decide +kernel) (by decide) rfl ?_
          refine do_mk (zs := (List.replicate 64 (.int .u8 0))) slice66 bytes72 (by decide) zero72 rfl rfl (by decide) rfl rfl hm7 fun r59 H60 hb61 => ?_
          have h := h r59 H60 hb61
          refine ⟨_, rfl, ?_⟩
          refine plan_one (j := 3) (S2 := 63) (by decide +kernel) rfl (by decide) rfl ?_
          refine do_mk (zs := (List.replicate 64 (.int .u8 0))) slice66 bytes72 (by decide) zero72 rfl rfl (by decide) rfl rfl hm8 fun r62 H63 hb64 => ?_
          have h := h r62 H63 hb64
          refine ⟨_, rfl, ?_⟩
          refine plan_commit hTb58 fun hh66 => ?_
          have h := h r57 _ ⟨b58, hh66, hrb58, rfl⟩
          refine plan_pure (i := 6) (d := 16) (S2 := 127) (v := .agg ([Sl.v r59, Sl.v r62, Sl.v Sl.nil, Sl.v r57, .int .i64 (-1), .int .i64 0, .bool false] : List Value).toArray) rfl (by decide +kernel) rfl (q_build (ps := [(0, Sl.v r59), (1, Sl.v r62), (3, Sl.v r57), (4, .int .i64 (-1))]) (cs := [Sl.v r59, Sl.v r62, Sl.v Sl.nil, Sl.v r57, .int .i64 (-1), .int .i64 0, .bool false]) places69 zero69 rfl rfl rfl) ?_
          refine plan_one (j := 7) (S2 := 255) (by decide +kernel) rfl (by decide) rfl ?_
          refine do_newBox (cs := [Sl.v r59, Sl.v r62, Sl.v Sl.nil, Sl.v r57, .int .i64 (-1), .int .i64 0, .bool false]) rfl rfl fun a67 H68 hb69 => ?_
          have h := h a67 H68 hb69
          refine ⟨_, rfl, ?_⟩
          refine plan_pure (i := 8) (d := 2) (S2 := 511) (v := .pointer (some a67)) rfl (by decide +kernel) rfl (q_assign rfl) ?_
          refine plan_pure (i := 9) (d := 3) (S2 := 1023) (v := .int .i64 0) rfl (by decide +kernel) rfl (q_assign rfl) ?_
          refine plan_done (by decide +kernel) ?_
          exact Go.ret ⟨.inl rfl, _, _, DOk.nil, (resOk2 Try.results10 rfl rfl), ⟨_, _, rfl, h⟩⟩
        · refine pstep_yes (S2 := 61) rfl (by decide +kernel) (by decide) rfl ?_
          refine do_mkT (zs := (List.replicate 64 (.int .u8 0))) slice66 bytes72 (by decide) zero72 rfl rfl (by decide) rfl rfl hm8 fun b71 r70 hHb71 hTb71 hrb71 => ?_
          refine ⟨_, rfl, ?_⟩
          refine plan_one (j := 1) (S2 := 63) (by decide +kernel) rfl (by decide) rfl ?_
          refine do_mk (zs := (List.replicate 64 (.int .u8 0))) slice66 bytes72 (by decide) zero72 rfl rfl (by decide) rfl rfl hm7 fun r72 H73 hb74 => ?_
          have h := h r72 H73 hb74
          refine ⟨_, rfl, ?_⟩
          refine plan_commit hTb71 fun hh76 => ?_
          have h := h r70 _ ⟨b71, hh76, hrb71, rfl⟩
          refine plan_commit hTb58 fun hh78 => ?_
          have h := h r57 _ ⟨b58, hh78, hrb58, rfl⟩
          refine plan_pure (i := 6) (d := 16) (S2 := 127) (v := .agg ([Sl.v r72, Sl.v r70, Sl.v Sl.nil, Sl.v r57, .int .i64 (-1), .int .i64 0, .bool false] : List Value).toArray) rfl (by decide +kernel) rfl (q_build (ps := [(0, Sl.v r72), (1, Sl.v r70), (3, Sl.v r57), (4, .int .i64 (-1))]) (cs := [Sl.v r72, Sl.v r70, Sl.v Sl.nil, Sl.v r57, .int .i64 (-1), .int .i64 0, .bool false]) places69 zero69 rfl rfl rfl) ?_
          refine plan_one (j := 7) (S2 := 255) (by decide +kernel) rfl (by decide) rfl ?_
          refine do_newBox (cs := [Sl.v r72, Sl.v r70, Sl.v Sl.nil, Sl.v r57, .int .i64 (-1), .int .i64 0, .bool false]) rfl rfl fun a79 H80 hb81 => ?_
          have h := h a79 H80 hb81
          refine ⟨_, rfl, ?_⟩
          refine plan_pure (i := 8) (d := 2) (S2 := 511) (v := .pointer (some a79)) rfl (by decide +kernel) rfl (q_assign rfl) ?_
          refine plan_pure (i := 9) (d := 3) (S2 := 1023) (v := .int .i64 0) rfl (by decide +kernel) rfl (q_assign rfl) ?_
          refine plan_done (by decide +kernel) ?_
          exact Go.ret ⟨.inl rfl, _, _, DOk.nil, (resOk2 Try.results10 rfl rfl), ⟨_, _, rfl, h⟩⟩
  · intro j3 hj3 h
    rcases bor (decide (p0 < 1)) with hc1 | hc1
    · have h := h.1 hc1
      refine no_dst (want_no rfl rfl rfl hc1) rfl (by decide) ?_
      refine no_dst (want_no rfl rfl rfl hc1) rfl (by decide) ?_
      refine GoOps.q (v := .bool true) rfl rfl (by decide) (q_pickT (btT rfl hc1) rfl) ?_
      exact hj3 true _ _ h (by exact ⟨rfl, rfl⟩)
    · have h := h.2 hc1
      refine GoOps.q (v := .int .i64 p0) (want_yes rfl rfl rfl hc1) rfl (by decide) (q_move rfl) ?_
      refine GoOps.q (v := .bool (decide (4096 < p0))) (want_yes rfl rfl rfl hc1) rfl (by decide) (q_gtr rfl rfl) ?_
      refine GoOps.q (v := .bool (decide (4096 < p0))) rfl rfl (by decide) (q_pickF (btF rfl hc1) rfl) ?_
      exact hj3 (decide (4096 < p0)) _ _ h (by exact ⟨rfl, rfl⟩)

/-- keelson.keelsonalike.Fill -/
def keelsonalike_Fill (p0 : Int) (H : PH) (Q : Sl → PH → Prop) : Prop :=
  mMk H 5 1 [.int .u8 0] 64 64 fun r1 H2 =>
  mLoop (fun (s5 : Int) (H8 : PH) (again6 : Int → PH → Prop) =>
  mIf (decide (s5 < 64))
  (keelsonalike_Round p0 256 H8 fun y11 H10 =>
  keelsonalike_Round (IntKind.wrap .i64 (y11 + s5)) 256 H10 fun y13 H12 =>
  mIdx r1 1 s5 fun a14 =>
  mSt H12 a14 ([.int .u8 (IntKind.wrap .u8 y13)]) fun H16 =>
  again6 (IntKind.wrap .i64 (s5 + 1)) H16)
  (Q r1 H8))
  0 H2

set_option maxRecDepth 20000 in
set_option maxHeartbeats 1000000 in
theorem keelsonalike_Fill_s (p0 : Int) (H : PH) (Q : Sl → PH → Prop) (h : keelsonalike_Fill p0 H Q) :
    CallsH Try.prog 12 #[.int .i64 p0] H (fun v H' => ∃ (r0 : Sl), v = Sl.v r0 ∧ Q r0 H') := by
  unfold keelsonalike_Fill at h
  refine callsH_of_go Try.func12 rfl Try.ntmps12 (Nat.le_of_ble_eq_true rfl) ?_
  refine Go.seq ?_
  refine Go.region rfl ?_
  refine GoOps.q (v := Sl.v Sl.nil) rfl rfl (by decide) (q_assign rfl) ?_
  refine GoOps.nil ?_
  refine Go.seq ?_
  refine Go.region rfl ?_
  obtain ⟨hm4, h⟩ := h
  refine op_dst rfl rfl (by decide) (do_mk (zs := [.int .u8 0]) slice28 bytes5 (by decide) zero5 rfl rfl (by decide) rfl rfl hm4 fun r1 H2 hb3 => ?_) 
  have h := h r1 H2 hb3
  refine GoOps.q (v := Sl.v r1) rfl rfl (by decide) (q_assign rfl) ?_
  refine GoOps.nil ?_
  refine Go.seq ?_
  refine Go.seq ?_
  refine Go.region rfl ?_
  refine GoOps.q (v := .int .i64 0) rfl rfl (by decide) (q_assign rfl) ?_
  refine GoOps.nil ?_
  refine Go.block ?_
  refine loop_go (fun ρ (s5 : Int) => ρ 0 = .int .i64 p0 ∧ ρ 3 = Sl.v r1 ∧ ρ 4 = .int .i64 s5) h ⟨rfl, rfl, rfl⟩ ?_
  clear h
  intro ρ s5 H8 again6 hE h hagain6
  obtain ⟨e7_0, e7_3, e7_4⟩ := hE
  refine Go.seq ?_
  refine Go.seq ?_
  refine Go.region rfl ?_
  refine GoOps.q (v := .int .i64 s5) rfl rfl (by decide) (q_move e7_4) ?_
  refine GoOps.q (v := .bool (decide (s5 < 64))) rfl rfl (by decide) (q_lss rfl rfl) ?_
  refine GoOps.nil ?_
  rcases bor (decide (s5 < 64)) with hc9 | hc9
  · have h := h.1 hc9
    refine Go.condT (btT rfl hc9) ?_
    refine Go.skip ?_
    refine Go.seq ?_
    refine Go.block ?_
    refine Go.region rfl ?_
    refine GoOps.q (v := Sl.v r1) rfl rfl (by decide) (q_move e7_3) ?_
    refine GoOps.q (v := .int .i64 s5) rfl rfl (by decide) (q_move e7_4) ?_
    refine GoOps.q (v := .int .i64 p0) rfl rfl (by decide) (q_move e7_0) ?_
    refine call_dst rfl (by decide) body9 (keelsonalike_Round_s _ _ _ _ h) rfl ?_
    rintro _ H10 ⟨y11, rfl, h⟩
    refine GoOps.q (v := .int .i64 s5) rfl rfl (by decide) (q_move e7_4) ?_
    refine GoOps.q (v := .int .i64 (IntKind.wrap .i64 (y11 + s5))) rfl rfl (by decide) (q_add rfl rfl) ?_
    refine call_dst rfl (by decide) body9 (keelsonalike_Round_s _ _ _ _ h) rfl ?_
    rintro _ H12 ⟨y13, rfl, h⟩
    refine GoOps.q (v := .int .u8 (IntKind.wrap .u8 y13)) rfl rfl (by decide) (q_conv Try.underlying3 Try.underlying5 rfl) ?_
    obtain ⟨a14, ha15, h⟩ := h
    refine GoOps.q (v := .pointer (some a14)) rfl rfl (by decide) (q_idx slice28 ha15 rfl rfl) ?_
    obtain ⟨q17b, q17o, q17c, q17e, hq17a, hq17b, hq17l, hq17v, h⟩ := h
    refine op_none rfl rfl (do_store (vs := [.int .u8 (IntKind.wrap .u8 y13)]) size5 (pta rfl hq17a) rfl rfl rfl hq17v hq17b hq17l ?_) 
    refine GoOps.nil ?_
    refine Go.inBlock ?_
    refine Go.region rfl ?_
    refine GoOps.q (v := .int .i64 s5) rfl rfl (by decide) (q_move e7_4) ?_
    refine GoOps.q (v := .int .i64 (IntKind.wrap .i64 (s5 + 1))) rfl rfl (by decide) (q_add rfl rfl) ?_
    refine GoOps.q (v := .int .i64 (IntKind.wrap .i64 (s5 + 1))) rfl rfl (by decide) (q_assign rfl) ?_
    refine GoOps.nil ?_
    exact hagain6 _ _ _ h ⟨e7_0, e7_3, rfl⟩
  · have h := h.2 hc9
    refine Go.condF (btF rfl hc9) ?_
    refine Go.exit rfl ?_
    refine Go.seq ?_
    refine Go.region rfl ?_
    refine GoOps.q (v := Sl.v r1) rfl rfl (by decide) (q_move e7_3) ?_
    refine GoOps.q (v := Sl.v r1) rfl rfl (by decide) (q_assign rfl) ?_
    refine GoOps.nil ?_
    exact Go.ret ⟨.inl rfl, _, _, DOk.nil, (resOk1 Try.results12 rfl), ⟨_, rfl, h⟩⟩

/-- (*keelson.vdisk.Disk).has -/
def vdisk_Disk_has (p0 : Option Addr) (p1 : Int) (H : PH) (Q : Bool → PH → Prop) : Prop :=
  mJoin (fun (s2 : Bool) (H4 : PH) =>
  mJoin (fun (s7 : Bool) (H9 : PH) =>
  Q s7 H9)
  fun j8 =>
  mIf s2
  (mNil p0 fun a11 =>
  mLd Sl.v H4 (a11.add 1) fun x13 =>
  j8 (decide (p1 < (x13.len : Int))) H4)
  (j8 false H4))
  fun j3 =>
  mIf (!(Option.isNone p0))
  (j3 (decide (0 ≤ p1)) H)
  (j3 false H)

set_option maxRecDepth 20000 in
set_option maxHeartbeats 1000000 in
theorem vdisk_Disk_has_s (p0 : Option Addr) (p1 : Int) (H : PH) (Q : Bool → PH → Prop) (h : vdisk_Disk_has p0 p1 H Q) :
    CallsH Try.prog 33 #[.pointer p0, .int .i64 p1] H (fun v H' => ∃ (r0 : Bool), v = .bool r0 ∧ Q r0 H') := by
  unfold vdisk_Disk_has at h
  refine callsH_of_go Try.func33 rfl Try.ntmps33 (Nat.le_of_ble_eq_true rfl) ?_
  refine Go.seq ?_
  refine Go.region rfl ?_
  refine GoOps.q (v := .bool false) rfl rfl (by decide) (q_assign rfl) ?_
  refine GoOps.nil ?_
  refine Go.seq ?_
  refine Go.region rfl ?_
  refine GoOps.q (v := .pointer p0) rfl rfl (by decide) (q_move rfl) ?_
  refine GoOps.q (v := .bool (!(Option.isNone p0))) rfl rfl (by decide) (q_neqPn Try.underlying23 rfl rfl) ?_
  refine GoOps.q (v := .bool (!(Option.isNone p0))) rfl rfl (by decide) (q_move rfl) ?_
  refine join_ops 3 (fun ρ (s2 : Bool) => ρ 0 = .pointer p0 ∧ ρ 1 = .int .i64 p1 ∧ ρ 10 = .bool s2) h ?_ ?_ <;> clear h
  · intro s2 H4 ρ h hE
    obtain ⟨e5_0, e5_1, e5_10⟩ := hE
    refine GoOps.q (v := .bool s2) rfl rfl (by decide) (q_move e5_10) ?_
    refine join_ops 8 (fun ρ (s7 : Bool) => ρ 19 = .bool s7) h ?_ ?_ <;> clear h
    · intro s7 H9 ρ h hE
      have e10_19 := hE
      refine GoOps.q (v := .bool s7) rfl rfl (by decide) (q_assign e10_19) ?_
      refine GoOps.nil ?_
      exact Go.ret ⟨.inl rfl, _, _, DOk.nil, (resOk1 Try.results33 rfl), ⟨_, rfl, h⟩⟩
    · intro j8 hj8 h
      rcases bor s2 with hc6 | hc6
      · have h := h.1 hc6
        refine GoOps.q (v := .int .i64 p1) (want_yes rfl rfl rfl hc6) rfl (by decide) (q_move e5_1) ?_
        refine GoOps.q (v := .pointer p0) (want_yes rfl rfl rfl hc6) rfl (by decide) (q_move e5_0) ?_
        obtain ⟨a11, ha12, h⟩ := h
        refine GoOps.q (v := .pointer (some a11)) (want_yes rfl rfl rfl hc6) rfl (by decide) (q_nilCheck (ptn rfl ha12)) ?_
        refine GoOps.q (v := .pointer (some (a11.add 1))) (want_yes rfl rfl rfl hc6) rfl (by decide) (q_fieldAddr foff69_1 rfl) ?_
        obtain ⟨x13, hx14, h⟩ := h
        refine GoOps.q (v := Sl.v x13) (want_yes rfl rfl rfl hc6) rfl (by decide) (q_load scalar66 rfl hx14) ?_
        refine GoOps.q (v := .int .i64 (x13.len : Int)) (want_yes rfl rfl rfl hc6) rfl (by decide) (q_len Try.underlying66 rfl (ls1 rfl)) ?_
        refine GoOps.q (v := .bool (decide (p1 < (x13.len : Int)))) (want_yes rfl rfl rfl hc6) rfl (by decide) (q_lss rfl rfl) ?_
        refine GoOps.q (v := .bool (decide (p1 < (x13.len : Int)))) rfl rfl (by decide) (q_pickT (btT rfl hc6) rfl) ?_
        exact hj8 (decide (p1 < (x13.len : Int))) _ _ h (by exact rfl)
      · have h := h.2 hc6
        refine no_dst (want_no rfl rfl rfl hc6) rfl (by decide) ?_
        refine no_dst (want_no rfl rfl rfl hc6) rfl (by decide) ?_
        refine no_dst (want_no rfl rfl rfl hc6) rfl (by decide) ?_
        refine no_dst (want_no rfl rfl rfl hc6) rfl (by decide) ?_
        refine no_dst (want_no rfl rfl rfl hc6) rfl (by decide) ?_
        refine no_dst (want_no rfl rfl rfl hc6) rfl (by decide) ?_
        refine no_dst (want_no rfl rfl rfl hc6) rfl (by decide) ?_
        refine GoOps.q (v := .bool false) rfl rfl (by decide) (q_pickF (btF rfl hc6) rfl) ?_
        exact hj8 false _ _ h (by exact rfl)
  · intro j3 hj3 h
    rcases bor (!(Option.isNone p0)) with hc1 | hc1
    · have h := h.1 hc1
      refine GoOps.q (v := .int .i64 p1) (want_yes rfl rfl rfl hc1) rfl (by decide) (q_move rfl) ?_
      refine GoOps.q (v := .bool (decide (0 ≤ p1))) (want_yes rfl rfl rfl hc1) rfl (by decide) (q_geq rfl rfl) ?_
      refine GoOps.q (v := .bool (decide (0 ≤ p1))) rfl rfl (by decide) (q_pickT (btT rfl hc1) rfl) ?_
      exact hj3 (decide (0 ≤ p1)) _ _ h (by exact ⟨rfl, rfl, rfl⟩)
    · have h := h.2 hc1
      refine no_dst (want_no rfl rfl rfl hc1) rfl (by decide) ?_
      refine no_dst (want_no rfl rfl rfl hc1) rfl (by decide) ?_
      refine GoOps.q (v := .bool false) rfl rfl (by decide) (q_pickF (btF rfl hc1) rfl) ?_
      exact hj3 false _ _ h (by exact ⟨rfl, rfl, rfl⟩)

/-- (*keelson.vdisk.Disk).act -/
def vdisk_Disk_act (p0 : Option Addr) (H : PH) (Q : Int → PH → Prop) : Prop :=
  mNil p0 fun a1 =>
  mLd (.int .i64) H (a1.add 5) fun x3 =>
  mNil p0 fun a5 =>
  mSt H (a5.add 5) ([.int .i64 (IntKind.wrap .i64 (x3 + 1))]) fun H7 =>
  mNil p0 fun a9 =>
  mLd .bool H7 (a9.add 6) fun x11 =>
  mJoin (fun (s14 : Bool) (H16 : PH) =>
  mNil p0 fun a18 =>
  mSt H16 (a18.add 6) ([.bool s14]) fun H20 =>
  mNil p0 fun a22 =>
  mLd .bool H20 (a22.add 6) fun x24 =>
  mIf x24
  (Q 3 H20)
  (mNil p0 fun a27 =>
  mLd (.int .i64) H20 (a27.add 4) fun x29 =>
  mNil p0 fun a31 =>
  mSt H20 (a31.add 4) ([.int .i64 (if (IntKind.wrap .i64 (x29 - 1)) < (-1) then (-1) else (IntKind.wrap .i64 (x29 - 1)))]) fun H33 =>
  Q 0 H33))
  fun j15 =>
  mIf x11
  (j15 true H7)
  (mNil p0 fun a35 =>
  mLd (.int .i64) H7 (a35.add 4) fun x37 =>
  j15 (x37 == 0) H7)

set_option maxRecDepth 20000 in
set_option maxHeartbeats 1000000 in
theorem vdisk_Disk_act_s (p0 : Option Addr) (H : PH) (Q : Int → PH → Prop) (h : vdisk_Disk_act p0 H Q) :
    CallsH Try.prog 34 #[.pointer p0] H (fun v H' => ∃ (r0 : Int), v = .int .i64 r0 ∧ Q r0 H') := by
  unfold vdisk_Disk_act at h
  refine callsH_of_go Try.func34 rfl Try.ntmps34 (Nat.le_of_ble_eq_true rfl) ?_
  refine Go.seq ?_
  refine Go.region rfl ?_
  refine GoOps.q (v := .int .i64 0) rfl rfl (by decide) (q_assign rfl) ?_
  refine GoOps.nil ?_
  refine Go.seq ?_
  refine Go.region rfl ?_
  refine GoOps.q (v := .pointer p0) rfl rfl (by decide) (q_move rfl) ?_
  obtain ⟨a1, ha2, h⟩ := h
  refine GoOps.q (v := .pointer (some a1)) rfl rfl (by decide) (q_nilCheck (ptn rfl ha2)) ?_
  refine GoOps.q (v := .pointer (some (a1.add 5))) rfl rfl (by decide) (q_fieldAddr foff69_5 rfl) ?_
  obtain ⟨x3, hx4, h⟩ := h
  refine GoOps.q (v := .int .i64 x3) rfl rfl (by decide) (q_load scalar3 rfl hx4) ?_
  refine GoOps.q (v := .int .i64 (IntKind.wrap .i64 (x3 + 1))) rfl rfl (by decide) (q_add rfl rfl) ?_
  obtain ⟨a5, ha6, h⟩ := h
  refine GoOps.q (v := .pointer (some a5)) rfl rfl (by decide) (q_nilCheck (ptn rfl ha6)) ?_
  refine GoOps.q (v := .pointer (some (a5.add 5))) rfl rfl (by decide) (q_fieldAddr foff69_5 rfl) ?_
  obtain ⟨q8b, q8o, q8c, q8e, hq8a, hq8b, hq8l, hq8v, h⟩ := h
  refine op_none rfl rfl (do_store (vs := [.int .i64 (IntKind.wrap .i64 (x3 + 1))]) size3 (pta rfl hq8a) rfl rfl rfl hq8v hq8b hq8l ?_) 
  refine GoOps.nil ?_
  refine Go.seq ?_
  refine Go.seq ?_
  refine Go.region rfl ?_
  refine GoOps.q (v := .pointer p0) rfl rfl (by decide) (q_move rfl) ?_
  refine GoOps.q (v := .pointer p0) rfl rfl (by decide) (q_move rfl) ?_
  obtain ⟨a9, ha10, h⟩ := h
  refine GoOps.q (v := .pointer (some a9)) rfl rfl (by decide) (q_nilCheck (ptn rfl ha10)) ?_
  refine GoOps.q (v := .pointer (some (a9.add 6))) rfl rfl (by decide) (q_fieldAddr foff69_6 rfl) ?_
  obtain ⟨x11, hx12, h⟩ := h
  refine GoOps.q (v := .bool x11) rfl rfl (by decide) (q_load scalar4 rfl hx12) ?_
  refine GoOps.q (v := .bool x11) rfl rfl (by decide) (q_move rfl) ?_
  refine join_ops 6 (fun ρ (s14 : Bool) => ρ 0 = .pointer p0 ∧ ρ 10 = .pointer p0 ∧ ρ 21 = .bool s14) h ?_ ?_ <;> clear h
  · intro s14 H16 ρ h hE
    obtain ⟨e17_0, e17_10, e17_21⟩ := hE
    obtain ⟨a18, ha19, h⟩ := h
    refine GoOps.q (v := .pointer (some a18)) rfl rfl (by decide) (q_nilCheck (ptn e17_10 ha19)) ?_
    refine GoOps.q (v := .pointer (some (a18.add 6))) rfl rfl (by decide) (q_fieldAddr foff69_6 rfl) ?_
    obtain ⟨q21b, q21o, q21c, q21e, hq21a, hq21b, hq21l, hq21v, h⟩ := h
    refine op_none rfl rfl (do_store (vs := [.bool s14]) size4 (pta rfl hq21a) e17_21 rfl rfl hq21v hq21b hq21l ?_) 
    refine GoOps.nil ?_
    refine Go.seq ?_
    refine Go.region rfl ?_
    refine GoOps.q (v := .pointer p0) rfl rfl (by decide) (q_move e17_0) ?_
    obtain ⟨a22, ha23, h⟩ := h
    refine GoOps.q (v := .pointer (some a22)) rfl rfl (by decide) (q_nilCheck (ptn rfl ha23)) ?_
    refine GoOps.q (v := .pointer (some (a22.add 6))) rfl rfl (by decide) (q_fieldAddr foff69_6 rfl) ?_
    obtain ⟨x24, hx25, h⟩ := h
    refine GoOps.q (v := .bool x24) rfl rfl (by decide) (q_load scalar4 rfl hx25) ?_
    refine GoOps.nil ?_
    rcases bor x24 with hc26 | hc26
    · have h := h.1 hc26
      refine Go.condT (btT rfl hc26) ?_
      refine Go.seq ?_
      refine Go.region rfl ?_
      refine GoOps.q (v := .int .i64 3) rfl rfl (by decide) (q_assign rfl) ?_
      refine GoOps.nil ?_
      exact Go.ret ⟨.inl rfl, _, _, DOk.nil, (resOk1 Try.results34 rfl), ⟨_, rfl, h⟩⟩
    · have h := h.2 hc26
      refine Go.condF (btF rfl hc26) ?_
      refine Go.skip ?_
      refine Go.seq ?_
      refine Go.region rfl ?_
      refine GoOps.q (v := .pointer p0) rfl rfl (by decide) (q_move e17_0) ?_
      refine GoOps.q (v := .pointer p0) rfl rfl (by decide) (q_move e17_0) ?_
      obtain ⟨a27, ha28, h⟩ := h
      refine GoOps.q (v := .pointer (some a27)) rfl rfl (by decide) (q_nilCheck (ptn rfl ha28)) ?_
      refine GoOps.q (v := .pointer (some (a27.add 4))) rfl rfl (by decide) (q_fieldAddr foff69_4 rfl) ?_
      obtain ⟨x29, hx30, h⟩ := h
      refine GoOps.q (v := .int .i64 x29) rfl rfl (by decide) (q_load scalar3 rfl hx30) ?_
      refine GoOps.q (v := .int .i64 (IntKind.wrap .i64 (x29 - 1))) rfl rfl (by decide) (q_sub rfl rfl) ?_
      refine GoOps.q (v := .int .i64 (if (IntKind.wrap .i64 (x29 - 1)) < (-1) then (-1) else (IntKind.wrap .i64 (x29 - 1)))) rfl rfl (by decide) (q_max2 rfl) ?_
      obtain ⟨a31, ha32, h⟩ := h
      refine GoOps.q (v := .pointer (some a31)) rfl rfl (by decide) (q_nilCheck (ptn rfl ha32)) ?_
      refine GoOps.q (v := .pointer (some (a31.add 4))) rfl rfl (by decide) (q_fieldAddr foff69_4 rfl) ?_
      obtain ⟨q34b, q34o, q34c, q34e, hq34a, hq34b, hq34l, hq34v, h⟩ := h
      refine op_none rfl rfl (do_store (vs := [.int .i64 (if (IntKind.wrap .i64 (x29 - 1)) < (-1) then (-1) else (IntKind.wrap .i64 (x29 - 1)))]) size3 (pta rfl hq34a) rfl rfl rfl hq34v hq34b hq34l ?_) 
      refine GoOps.nil ?_
      refine Go.seq ?_
      refine Go.region rfl ?_
      refine GoOps.q (v := .int .i64 0) rfl rfl (by decide) (q_assign rfl) ?_
      refine GoOps.nil ?_
      exact Go.ret ⟨.inl rfl, _, _, DOk.nil, (resOk1 Try.results34 rfl), ⟨_, rfl, h⟩⟩
  · intro j15 hj15 h
    rcases bor x11 with hc13 | hc13
    · have h := h.1 hc13
      refine no_dst (want_no rfl rfl rfl hc13) rfl (by decide) ?_
      refine no_dst (want_no rfl rfl rfl hc13) rfl (by decide) ?_
      refine no_dst (want_no rfl rfl rfl hc13) rfl (by decide) ?_
      refine no_dst (want_no rfl rfl rfl hc13) rfl (by decide) ?_
      refine no_dst (want_no rfl rfl rfl hc13) rfl (by decide) ?_
      refine GoOps.q (v := .bool true) rfl rfl (by decide) (q_pickT (btT rfl hc13) rfl) ?_
      exact hj15 true _ _ h (by exact ⟨rfl, rfl, rfl⟩)
    · have h := h.2 hc13
      refine GoOps.q (v := .pointer p0) (want_yes rfl rfl rfl hc13) rfl (by decide) (q_move rfl) ?_
      obtain ⟨a35, ha36, h⟩ := h
      refine GoOps.q (v := .pointer (some a35)) (want_yes rfl rfl rfl hc13) rfl (by decide) (q_nilCheck (ptn rfl ha36)) ?_
      refine GoOps.q (v := .pointer (some (a35.add 4))) (want_yes rfl rfl rfl hc13) rfl (by decide) (q_fieldAddr foff69_4 rfl) ?_
      obtain ⟨x37, hx38, h⟩ := h
      refine GoOps.q (v := .int .i64 x37) (want_yes rfl rfl rfl hc13) rfl (by decide) (q_load scalar3 rfl hx38) ?_
      refine GoOps.q (v := .bool (x37 == 0)) (want_yes rfl rfl rfl hc13) rfl (by decide) (q_eql rfl rfl) ?_
      refine GoOps.q (v := .bool (x37 == 0)) rfl rfl (by decide) (q_pickF (btF rfl hc13) rfl) ?_
      exact hj15 (x37 == 0) _ _ h (by exact ⟨rfl, rfl, rfl⟩)

/-- (*keelson.vdisk.Disk).Write -/
def vdisk_Disk_Write (p0 : Option Addr) (p1 : Int) (p2 : Sl) (H : PH) (Q : Int → PH → Prop) : Prop :=
  vdisk_Disk_has p0 p1 H fun y2 H1 =>
  mJoin (fun (s4 : Bool) (H6 : PH) =>
  mIf s4
  (Q 1 H6)
  (vdisk_Disk_act p0 H6 fun y10 H9 =>
  mIf (y10 != 0)
  (Q y10 H9)
  (mNil p0 fun a12 =>
  mLd Sl.v H9 (a12.add 2) fun x14 =>
  mArr p2 64 fun a16 =>
  mLdA H9 a16 64 fun x18 =>
  mLen x18 64 <|
  mLen (catl [[.int .i64 p1], x18]) 65 <|
  mNewS H9 (row (catl [catl [[.int .i64 p1], x18]]) 74) 1 fun r21 H22 =>
  mSame H22 (a12.add 2) (Sl.v x14) <|
  mApp H22 74 65 72 [.int .i64 0, .int .u8 0, .int .u8 0, .int .u8 0, .int .u8 0, .int .u8 0, .int .u8 0, .int .u8 0, .int .u8 0, .int .u8 0, .int .u8 0, .int .u8 0, .int .u8 0, .int .u8 0, .int .u8 0, .int .u8 0, .int .u8 0, .int .u8 0, .int .u8 0, .int .u8 0, .int .u8 0, .int .u8 0, .int .u8 0, .int .u8 0, .int .u8 0, .int .u8 0, .int .u8 0, .int .u8 0, .int .u8 0, .int .u8 0, .int .u8 0, .int .u8 0, .int .u8 0, .int .u8 0, .int .u8 0, .int .u8 0, .int .u8 0, .int .u8 0, .int .u8 0, .int .u8 0, .int .u8 0, .int .u8 0, .int .u8 0, .int .u8 0, .int .u8 0, .int .u8 0, .int .u8 0, .int .u8 0, .int .u8 0, .int .u8 0, .int .u8 0, .int .u8 0, .int .u8 0, .int .u8 0, .int .u8 0, .int .u8 0, .int .u8 0, .int .u8 0, .int .u8 0, .int .u8 0, .int .u8 0, .int .u8 0, .int .u8 0, .int .u8 0, .int .u8 0] x14 r21 fun r26 H27 =>
  mNil p0 fun a28 =>
  mSt H27 (a28.add 2) ([Sl.v r26]) fun H30 =>
  mNil p0 fun a32 =>
  mLd Sl.v H30 (a32.add 1) fun x34 =>
  mArr p2 64 fun a36 =>
  mLdA H30 a36 64 fun x38 =>
  mIdx x34 64 p1 fun a40 =>
  mStA H30 a40 64 x38 fun H42 =>
  Q 0 H42)))
  fun j5 =>
  mIf (!y2)
  (j5 true H1)
  (j5 ((p2.len : Int) != 64) H1)

set_option maxRecDepth 20000 in
set_option maxHeartbeats 1000000 in
theorem vdisk_Disk_Write_s (p0 : Option Addr) (p1 : Int) (p2 : Sl) (H : PH) (Q : Int → PH → Prop) (h : vdisk_Disk_Write p0 p1 p2 H Q) :
    CallsH Try.prog 11 #[.pointer p0, .int .i64 p1, Sl.v p2] H (fun v H' => ∃ (r0 : Int), v = .int .i64 r0 ∧ Q r0 H') := by
  unfold vdisk_Disk_Write at h
  refine callsH_of_go Try.func11 rfl Try.ntmps11 (Nat.le_of_ble_eq_true rfl) ?_
  refine Go.seq ?_
  refine Go.region rfl ?_
  refine GoOps.q (v := .int .i64 0) rfl rfl (by decide) (q_assign rfl) ?_
  refine GoOps.nil ?_
  refine Go.seq ?_
  refine Go.seq ?_
  refine Go.region rfl ?_
  refine GoOps.q (v := .pointer p0) rfl rfl (by decide) (q_move rfl) ?_
  refine GoOps.q (v := .int .i64 p1) rfl rfl (by decide) (q_move rfl) ?_
  refine call_dst rfl (by decide) body33 (vdisk_Disk_has_s _ _ _ _ h) rfl ?_
  rintro _ H1 ⟨y2, rfl, h⟩
  refine GoOps.q (v := .bool (!y2)) rfl rfl (by decide) (q_not rfl) ?_
  refine GoOps.q (v := .bool (!y2)) rfl rfl (by decide) (q_move rfl) ?_
  refine join_ops 4 (fun ρ (s4 : Bool) => ρ 0 = .pointer p0 ∧ ρ 1 = .int .i64 p1 ∧ ρ 2 = Sl.v p2 ∧ ρ 16 = .bool s4) h ?_ ?_ <;> clear h
  · intro s4 H6 ρ h hE
    obtain ⟨e7_0, e7_1, e7_2, e7_16⟩ := hE
    refine GoOps.nil ?_
    rcases bor s4 with hc8 | hc8
    · have h := h.1 hc8
      refine Go.condT (btT e7_16 hc8) ?_
      refine Go.seq ?_
      refine Go.region rfl ?_
      refine GoOps.q (v := .int .i64 1) rfl rfl (by decide) (q_assign rfl) ?_
      refine GoOps.nil ?_
      exact Go.ret ⟨.inl rfl, _, _, DOk.nil, (resOk1 Try.results11 rfl), ⟨_, rfl, h⟩⟩
    · have h := h.2 hc8
      refine Go.condF (btF e7_16 hc8) ?_
      refine Go.skip ?_
      refine Go.seq ?_
      refine Go.seq ?_
      refine Go.region rfl ?_
      refine GoOps.q (v := .pointer p0) rfl rfl (by decide) (q_move e7_0) ?_
      refine call_dst rfl (by decide) body34 (vdisk_Disk_act_s _ _ _ h) rfl ?_
      rintro _ H9 ⟨y10, rfl, h⟩
      refine GoOps.q (v := .int .i64 y10) rfl rfl (by decide) (q_assign rfl) ?_
      refine GoOps.nil ?_
      refine Go.seq ?_
      refine Go.region rfl ?_
      refine GoOps.q (v := .int .i64 y10) rfl rfl (by decide) (q_move rfl) ?_
      refine GoOps.q (v := .bool (y10 != 0)) rfl rfl (by decide) (q_neq rfl rfl) ?_
      refine GoOps.nil ?_
      rcases bor (y10 != 0) with hc11 | hc11
      · have h := h.1 hc11
        refine Go.condT (btT rfl hc11) ?_
        refine Go.seq ?_
        refine Go.region rfl ?_
        refine GoOps.q (v := .int .i64 y10) rfl rfl (by decide) (q_move rfl) ?_
        refine GoOps.q (v := .int .i64 y10) rfl rfl (by decide) (q_assign rfl) ?_
        refine GoOps.nil ?_
        exact Go.ret ⟨.inl rfl, _, _, DOk.nil, (resOk1 Try.results11 rfl), ⟨_, rfl, h⟩⟩
      · have h := h.2 hc11
        refine Go.condF (btF rfl hc11) ?_
        refine Go.skip ?_
        refine Go.seq ?_
        refine Go.draw mixed ?_
        refine plan_pure (i := 0) (d := 22) (S2 := 1) (v := .pointer p0) rfl (by decide +kernel) rfl (q_move e7_0) ?_
        refine plan_pure (i := 1) (d := 23) (S2 := 3) (v := .pointer p0) rfl (by decide +kernel) rfl (q_move e7_0) ?_
        obtain ⟨a12, ha13, h⟩ := h
        refine plan_pure (i := 2) (d := 24) (S2 := 7) (v := .pointer (some a12)) rfl (by decide +kernel) rfl (q_nilCheck (ptn rfl ha13)) ?_
        refine plan_pure (i := 3) (d := 25) (S2 := 15) (v := .pointer (some (a12.add 2))) rfl (by decide +kernel) rfl (q_fieldAddr foff69_2 rfl) ?_
        obtain ⟨x14, hx15, h⟩ := h
        refine plan_load (i := 4) (d := 26) (S2 := 31) (v := Sl.v x14) rfl (by decide +kernel) rfl (q_load scalar67 rfl hx15) ?_
        refine plan_pure (i := 5) (d := 27) (S2 := 63) (v := .int .i64 p1) rfl (by decide +kernel) rfl (q_move e7_1) ?_
        refine plan_pure (i := 6) (d := 28) (S2 := 127) (v := Sl.v p2) rfl (by decide +kernel) rfl (q_move e7_2) ?_
        obtain ⟨ha17l, a16, ha17, h⟩ := h
        refine plan_pure (i := 7) (d := 29) (S2 := 255) (v := .pointer (some a16)) rfl (by decide +kernel) rfl (q_arr array72 ha17l ha17 rfl) ?_
        obtain ⟨x18, hx19, h⟩ := h
        refine plan_load (i := 8) (d := 30) (S2 := 511) (v := .agg (x18 : List Value).toArray) rfl (by decide +kernel) rfl (q_loadA aggr72 rfl hx19) ?_
        obtain ⟨hn20, h⟩ := h
        refine plan_pure (i := 9) (d := 31) (S2 := 1023) (v := .agg (catl [[.int .i64 p1], x18] : List Value).toArray) rfl (by decide +kernel) rfl (q_buildCat (ps := [(0, .int .i64 p1), (1, .agg (x18 : List Value).toArray)]) places74 zero74 rfl rfl (.cons rfl rfl rfl (.cons hn20 rfl rfl (.nil rfl)))) ?_
        refine plan_one (j := 10) (S2 := 2047) (by decide +kernel) rfl (by decide) rfl ?_
        obtain ⟨hn24, h⟩ := h
        refine do_bs (ps := [(0, .agg (catl [[.int .i64 p1], x18] : List Value).toArray)]) (zs := [.int .i64 0, .int .u8 0, .int .u8 0, .int .u8 0, .int .u8 0, .int .u8 0, .int .u8 0, .int .u8 0, .int .u8 0, .int .u8 0, .int .u8 0, .int .u8 0, .int .u8 0, .int .u8 0, .int .u8 0, .int .u8 0, .int .u8 0, .int .u8 0, .int .u8 0, .int .u8 0, .int .u8 0, .int .u8 0, .int .u8 0, .int .u8 0, .int .u8 0, .int .u8 0, .int .u8 0, .int .u8 0, .int .u8 0, .int .u8 0, .int .u8 0, .int .u8 0, .int .u8 0, .int .u8 0, .int .u8 0, .int .u8 0, .int .u8 0, .int .u8 0, .int .u8 0, .int .u8 0, .int .u8 0, .int .u8 0, .int .u8 0, .int .u8 0, .int .u8 0, .int .u8 0, .int .u8 0, .int .u8 0, .int .u8 0, .int .u8 0, .int .u8 0, .int .u8 0, .int .u8 0, .int .u8 0, .int .u8 0, .int .u8 0, .int .u8 0, .int .u8 0, .int .u8 0, .int .u8 0, .int .u8 0, .int .u8 0, .int .u8 0, .int .u8 0, .int .u8 0]) (cs := catl [catl [[.int .i64 p1], x18]]) slice67 zero74 rfl rfl (by decide) (by decide) rfl (fillS_cat (.cons hn24 rfl rfl (.nil rfl)) rfl) fun r21 H22 hb23 => ?_
        have h := h r21 H22 hb23
        obtain ⟨hr25, h⟩ := h
        refine ⟨_, (.inl ⟨⟨[9, 10], by decide +kernel, rfl⟩, .inr ⟨⟨_, _, rfl, rfl, q_load scalar67 rfl hr25⟩, _, rfl, rfl⟩⟩), ?_⟩
        refine plan_one (j := 11) (S2 := 4095) (by decide +kernel) rfl (by decide) rfl ?_
        refine do_append (zs := [.int .i64 0, .int .u8 0, .int .u8 0, .int .u8 0, .int .u8 0, .int .u8 0, .int .u8 0, .int .u8 0, .int .u8 0, .int .u8 0, .int .u8 0, .int .u8 0, .int .u8 0, .int .u8 0, .int .u8 0, .int .u8 0, .int .u8 0, .int .u8 0, .int .u8 0, .int .u8 0, .int .u8 0, .int .u8 0, .int .u8 0, .int .u8 0, .int .u8 0, .int .u8 0, .int .u8 0, .int .u8 0, .int .u8 0, .int .u8 0, .int .u8 0, .int .u8 0, .int .u8 0, .int .u8 0, .int .u8 0, .int .u8 0, .int .u8 0, .int .u8 0, .int .u8 0, .int .u8 0, .int .u8 0, .int .u8 0, .int .u8 0, .int .u8 0, .int .u8 0, .int .u8 0, .int .u8 0, .int .u8 0, .int .u8 0, .int .u8 0, .int .u8 0, .int .u8 0, .int .u8 0, .int .u8 0, .int .u8 0, .int .u8 0, .int .u8 0, .int .u8 0, .int .u8 0, .int .u8 0, .int .u8 0, .int .u8 0, .int .u8 0, .int .u8 0, .int .u8 0]) slice67 bytes74 (by decide) zero74 rfl rfl (by decide) rfl rfl Try.underlying67 rfl h fun r26 H27 h => ?_
        refine ⟨_, (.inl ⟨⟨[11], by decide +kernel, rfl⟩, rfl⟩), ?_⟩
        obtain ⟨a28, ha29, h⟩ := h
        refine plan_pure (i := 12) (d := 34) (S2 := 8191) (v := .pointer (some a28)) rfl (by decide +kernel) rfl (q_nilCheck (ptn rfl ha29)) ?_
        refine plan_pure (i := 13) (d := 35) (S2 := 16383) (v := .pointer (some (a28.add 2))) rfl (by decide +kernel) rfl (q_fieldAddr foff69_2 rfl) ?_
        refine plan_one (j := 14) (S2 := 32767) (by decide +kernel) rfl (by decide) rfl ?_
        obtain ⟨q31b, q31o, q31c, q31e, hq31a, hq31b, hq31l, hq31v, h⟩ := h
        refine do_store (vs := [Sl.v r26]) size67 (pta rfl hq31a) rfl rfl rfl hq31v hq31b hq31l ?_
        refine ⟨_, rfl, ?_⟩
        refine plan_done (by decide +kernel) ?_
        refine Go.seq ?_
        refine Go.draw mixed ?_
        refine plan_pure (i := 0) (d := 36) (S2 := 1) (v := .pointer p0) rfl (by decide +kernel) rfl (q_move e7_0) ?_
        obtain ⟨a32, ha33, h⟩ := h
        refine plan_pure (i := 1) (d := 37) (S2 := 3) (v := .pointer (some a32)) rfl (by decide +kernel) rfl (q_nilCheck (ptn rfl ha33)) ?_
        refine plan_pure (i := 2) (d := 38) (S2 := 7) (v := .pointer (some (a32.add 1))) rfl (by decide +kernel) rfl (q_fieldAddr foff69_1 rfl) ?_
        obtain ⟨x34, hx35, h⟩ := h
        refine plan_load (i := 3) (d := 39) (S2 := 15) (v := Sl.v x34) rfl (by decide +kernel) rfl (q_load scalar66 rfl hx35) ?_
        refine plan_pure (i := 4) (d := 40) (S2 := 31) (v := .int .i64 p1) rfl (by decide +kernel) rfl (q_move e7_1) ?_
        refine plan_pure (i := 5) (d := 41) (S2 := 63) (v := Sl.v p2) rfl (by decide +kernel) rfl (q_move e7_2) ?_
        obtain ⟨ha37l, a36, ha37, h⟩ := h
        refine plan_pure (i := 6) (d := 42) (S2 := 127) (v := .pointer (some a36)) rfl (by decide +kernel) rfl (q_arr array72 ha37l ha37 rfl) ?_
        obtain ⟨x38, hx39, h⟩ := h
        refine plan_load (i := 7) (d := 43) (S2 := 255) (v := .agg (x38 : List Value).toArray) rfl (by decide +kernel) rfl (q_loadA aggr72 rfl hx39) ?_
        obtain ⟨a40, ha41, h⟩ := h
        refine plan_pure (i := 8) (d := 44) (S2 := 511) (v := .pointer (some a40)) rfl (by decide +kernel) rfl (q_idx slice66 ha41 rfl rfl) ?_
        refine plan_one (j := 9) (S2 := 1023) (by decide +kernel) rfl (by decide) rfl ?_
        obtain ⟨hq43n, q43b, q43o, q43c, q43e, hq43a, hq43b, hq43l, hq43v, h⟩ := h
        refine do_store (vs := x38) size72 (pta rfl hq43a) rfl rfl hq43n hq43v hq43b hq43l ?_
        refine ⟨_, (.inl ⟨⟨[9], by decide +kernel, rfl⟩, .inl ⟨⟨[9], by decide +kernel, rfl⟩, rfl⟩⟩), ?_⟩
        refine plan_done (by decide +kernel) ?_
        refine Go.seq ?_
        refine Go.region rfl ?_
        refine GoOps.q (v := .int .i64 0) rfl rfl (by decide) (q_assign rfl) ?_
        refine GoOps.nil ?_
        exact Go.ret ⟨.inl rfl, _, _, DOk.nil, (resOk1 Try.results11 rfl), ⟨_, rfl, h⟩⟩
  · intro j5 hj5 h
    rcases bor (!y2) with hc3 | hc3
    · have h := h.1 hc3
      refine no_dst (want_no rfl rfl rfl hc3) rfl (by decide) ?_
      refine no_dst (want_no rfl rfl rfl hc3) rfl (by decide) ?_
      refine no_dst (want_no rfl rfl rfl hc3) rfl (by decide) ?_
      refine GoOps.q (v := .bool true) rfl rfl (by decide) (q_pickT (btT rfl hc3) rfl) ?_
      exact hj5 true _ _ h (by exact ⟨rfl, rfl, rfl, rfl⟩)
    · have h := h.2 hc3
      refine GoOps.q (v := Sl.v p2) (want_yes rfl rfl rfl hc3) rfl (by decide) (q_move rfl) ?_
      refine GoOps.q (v := .int .i64 (p2.len : Int)) (want_yes rfl rfl rfl hc3) rfl (by decide) (q_len Try.underlying28 rfl (ls1 rfl)) ?_
      refine GoOps.q (v := .bool ((p2.len : Int) != 64)) (want_yes rfl rfl rfl hc3) rfl (by decide) (q_neq rfl rfl) ?_
      refine GoOps.q (v := .bool ((p2.len : Int) != 64)) rfl rfl (by decide) (q_pickF (btF rfl hc3) rfl) ?_
      exact hj5 ((p2.len : Int) != 64) _ _ h (by exact ⟨rfl, rfl, rfl, rfl⟩)

/-- (*keelson.vdisk.Disk).Fault -/
def vdisk_Disk_Fault (p0 : Option Addr) (p1 : Int) (p2 : Bool) (H : PH) (Q : Int → PH → Prop) : Prop :=
  vdisk_Disk_has p0 p1 H fun y2 H1 =>
  mIf (!y2)
  (Q 1 H1)
  (mNil p0 fun a4 =>
  mLd Sl.v H1 (a4.add 3) fun x6 =>
  mIdx x6 1 p1 fun a8 =>
  mSt H1 a8 ([.bool p2]) fun H10 =>
  Q 0 H10)

set_option maxRecDepth 20000 in
set_option maxHeartbeats 1000000 in
theorem vdisk_Disk_Fault_s (p0 : Option Addr) (p1 : Int) (p2 : Bool) (H : PH) (Q : Int → PH → Prop) (h : vdisk_Disk_Fault p0 p1 p2 H Q) :
    CallsH Try.prog 13 #[.pointer p0, .int .i64 p1, .bool p2] H (fun v H' => ∃ (r0 : Int), v = .int .i64 r0 ∧ Q r0 H') := by
  unfold vdisk_Disk_Fault at h
  refine callsH_of_go Try.func13 rfl Try.ntmps13 (Nat.le_of_ble_eq_true rfl) ?_
  refine Go.seq ?_
  refine Go.region rfl ?_
  refine GoOps.q (v := .int .i64 0) rfl rfl (by decide) (q_assign rfl) ?_
  refine GoOps.nil ?_
  refine Go.seq ?_
  refine Go.seq ?_
  refine Go.region rfl ?_
  refine GoOps.q (v := .pointer p0) rfl rfl (by decide) (q_move rfl) ?_
  refine GoOps.q (v := .int .i64 p1) rfl rfl (by decide) (q_move rfl) ?_
  refine call_dst rfl (by decide) body33 (vdisk_Disk_has_s _ _ _ _ h) rfl ?_
  rintro _ H1 ⟨y2, rfl, h⟩
  refine GoOps.q (v := .bool (!y2)) rfl rfl (by decide) (q_not rfl) ?_
  refine GoOps.nil ?_
  rcases bor (!y2) with hc3 | hc3
  · have h := h.1 hc3
    refine Go.condT (btT rfl hc3) ?_
    refine Go.seq ?_
    refine Go.region rfl ?_
    refine GoOps.q (v := .int .i64 1) rfl rfl (by decide) (q_assign rfl) ?_
    refine GoOps.nil ?_
    exact Go.ret ⟨.inl rfl, _, _, DOk.nil, (resOk1 Try.results13 rfl), ⟨_, rfl, h⟩⟩
  · have h := h.2 hc3
    refine Go.condF (btF rfl hc3) ?_
    refine Go.skip ?_
    refine Go.seq ?_
    refine Go.region rfl ?_
    refine GoOps.q (v := .pointer p0) rfl rfl (by decide) (q_move rfl) ?_
    obtain ⟨a4, ha5, h⟩ := h
    refine GoOps.q (v := .pointer (some a4)) rfl rfl (by decide) (q_nilCheck (ptn rfl ha5)) ?_
    refine GoOps.q (v := .pointer (some (a4.add 3))) rfl rfl (by decide) (q_fieldAddr foff69_3 rfl) ?_
    obtain ⟨x6, hx7, h⟩ := h
    refine GoOps.q (v := Sl.v x6) rfl rfl (by decide) (q_load scalar62 rfl hx7) ?_
    refine GoOps.q (v := .int .i64 p1) rfl rfl (by decide) (q_move rfl) ?_
    refine GoOps.q (v := .bool p2) rfl rfl (by decide) (q_move rfl) ?_
    obtain ⟨a8, ha9, h⟩ := h
    refine GoOps.q (v := .pointer (some a8)) rfl rfl (by decide) (q_idx slice62 ha9 rfl rfl) ?_
    obtain ⟨q11b, q11o, q11c, q11e, hq11a, hq11b, hq11l, hq11v, h⟩ := h
    refine op_none rfl rfl (do_store (vs := [.bool p2]) size4 (pta rfl hq11a) rfl rfl rfl hq11v hq11b hq11l ?_) 
    refine GoOps.nil ?_
    refine Go.seq ?_
    refine Go.region rfl ?_
    refine GoOps.q (v := .int .i64 0) rfl rfl (by decide) (q_assign rfl) ?_
    refine GoOps.nil ?_
    exact Go.ret ⟨.inl rfl, _, _, DOk.nil, (resOk1 Try.results13 rfl), ⟨_, rfl, h⟩⟩

/-- slices.Clone[[]byte,byte] -/
def slices_Clone_Slbyte_byte (p0 : Sl) (H : PH) (Q : Sl → PH → Prop) : Prop :=
  mIf (Option.isNone p0.a)
  (Q Sl.nil H)
  (mNewS H (row [] 5) 0 fun r2 H3 =>
  mApp H3 5 1 1 [.int .u8 0] r2 p0 fun r5 H6 =>
  Q r5 H6)

set_option maxRecDepth 20000 in
set_option maxHeartbeats 1000000 in
theorem slices_Clone_Slbyte_byte_s (p0 : Sl) (H : PH) (Q : Sl → PH → Prop) (h : slices_Clone_Slbyte_byte p0 H Q) :
    CallsH Try.prog 35 #[Sl.v p0] H (fun v H' => ∃ (r0 : Sl), v = Sl.v r0 ∧ Q r0 H') := by
  unfold slices_Clone_Slbyte_byte at h
  refine callsH_of_go Try.func35 rfl Try.ntmps35 (Nat.le_of_ble_eq_true rfl) ?_
  refine Go.seq ?_
  refine Go.region rfl ?_
  refine GoOps.q (v := Sl.v Sl.nil) rfl rfl (by decide) (q_assign rfl) ?_
  refine GoOps.nil ?_
  refine Go.seq ?_
  refine Go.seq ?_
  refine Go.region rfl ?_
  refine GoOps.q (v := Sl.v p0) rfl rfl (by decide) (q_move rfl) ?_
  refine GoOps.q (v := .bool (Option.isNone p0.a)) rfl rfl (by decide) (q_eqlSn Try.underlying28 rfl rfl) ?_
  refine GoOps.nil ?_
  rcases bor (Option.isNone p0.a) with hc1 | hc1
  · have h := h.1 hc1
    refine Go.condT (btT rfl hc1) ?_
    refine Go.seq ?_
    refine Go.region rfl ?_
    refine GoOps.q (v := Sl.v Sl.nil) rfl rfl (by decide) (q_assign rfl) ?_
    refine GoOps.nil ?_
    exact Go.ret ⟨.inl rfl, _, _, DOk.nil, (resOk1 Try.results35 rfl), ⟨_, rfl, h⟩⟩
  · have h := h.2 hc1
    refine Go.condF (btF rfl hc1) ?_
    refine Go.skip ?_
    refine Go.seq ?_
    refine Go.region rfl ?_
    refine op_dst rfl rfl (by decide) (do_bs0 slice28 fun r2 H3 hb4 => ?_) 
    have h := h r2 H3 hb4
    refine GoOps.q (v := Sl.v p0) rfl rfl (by decide) (q_move rfl) ?_
    refine op_dst rfl rfl (by decide) (do_append (zs := [.int .u8 0]) slice28 bytes5 (by decide) zero5 rfl rfl (by decide) rfl rfl Try.underlying28 rfl h fun r5 H6 h => ?_) 
    refine GoOps.q (v := Sl.v r5) rfl rfl (by decide) (q_assign rfl) ?_
    refine GoOps.nil ?_
    exact Go.ret ⟨.inl rfl, _, _, DOk.nil, (resOk1 Try.results35 rfl), ⟨_, rfl, h⟩⟩

/-- (*keelson.vdisk.Disk).Read -/
def vdisk_Disk_Read (p0 : Option Addr) (p1 : Int) (H : PH) (Q : Sl → Int → PH → Prop) : Prop :=
  vdisk_Disk_has p0 p1 H fun y2 H1 =>
  mIf (!y2)
  (Q Sl.nil 1 H1)
  (mNil p0 fun a4 =>
  mLd .bool H1 (a4.add 6) fun x6 =>
  mIf x6
  (Q Sl.nil 3 H1)
  (mNil p0 fun a9 =>
  mLd Sl.v H1 (a9.add 3) fun x11 =>
  mIdx x11 1 p1 fun a13 =>
  mLd .bool H1 a13 fun x15 =>
  mIf x15
  (Q Sl.nil 4 H1)
  (mNil p0 fun a18 =>
  mLd Sl.v H1 (a18.add 1) fun x20 =>
  mIdx x20 64 p1 fun a22 =>
  mCutA 64 a22 1 0 64 fun r25 =>
  slices_Clone_Slbyte_byte r25 H1 fun y27 H26 =>
  Q y27 0 H26)))

set_option maxRecDepth 20000 in
set_option maxHeartbeats 1000000 in
theorem vdisk_Disk_Read_s (p0 : Option Addr) (p1 : Int) (H : PH) (Q : Sl → Int → PH → Prop) (h : vdisk_Disk_Read p0 p1 H Q) :
    CallsH Try.prog 14 #[.pointer p0, .int .i64 p1] H (fun v H' => ∃ (r0 : Sl) (r1 : Int), v = .tuple #[Sl.v r0, .int .i64 r1] ∧ Q r0 r1 H') := by
  unfold vdisk_Disk_Read at h
  refine callsH_of_go Try.func14 rfl Try.ntmps14 (Nat.le_of_ble_eq_true rfl) ?_
  refine Go.seq ?_
  refine Go.region rfl ?_
  refine GoOps.q (v := Sl.v Sl.nil) rfl rfl (by decide) (q_assign rfl) ?_
  refine GoOps.q (v := .int .i64 0) rfl rfl (by decide) (q_assign rfl) ?_
  refine GoOps.nil ?_
  refine Go.seq ?_
  refine Go.block ?_
  refine Go.seq ?_
  refine Go.region rfl ?_
  refine GoOps.q (v := .pointer p0) rfl rfl (by decide) (q_move rfl) ?_
  refine GoOps.q (v := .int .i64 p1) rfl rfl (by decide) (q_move rfl) ?_
  refine call_dst rfl (by decide) body33 (vdisk_Disk_has_s _ _ _ _ h) rfl ?_
  rintro _ H1 ⟨y2, rfl, h⟩
  refine GoOps.q (v := .bool (!y2)) rfl rfl (by decide) (q_not rfl) ?_
  refine GoOps.q (v := .bool (!y2)) rfl rfl (by decide) (q_assign rfl) ?_
  refine GoOps.nil ?_
  rcases bor (!y2) with hc3 | hc3
  · have h := h.1 hc3
    refine Go.condT (btT rfl hc3) ?_
    refine Go.seq ?_
    refine Go.region rfl ?_
    refine GoOps.q (v := Sl.v Sl.nil) rfl rfl (by decide) (q_assign rfl) ?_
    refine GoOps.q (v := .int .i64 1) rfl rfl (by decide) (q_assign rfl) ?_
    refine GoOps.nil ?_
    exact Go.ret ⟨.inl rfl, _, _, DOk.nil, (resOk2 Try.results14 rfl rfl), ⟨_, _, rfl, h⟩⟩
  · have h := h.2 hc3
    refine Go.condF (btF rfl hc3) ?_
    refine Go.seq ?_
    refine Go.region rfl ?_
    refine GoOps.q (v := .pointer p0) rfl rfl (by decide) (q_move rfl) ?_
    obtain ⟨a4, ha5, h⟩ := h
    refine GoOps.q (v := .pointer (some a4)) rfl rfl (by decide) (q_nilCheck (ptn rfl ha5)) ?_
    refine GoOps.q (v := .pointer (some (a4.add 6))) rfl rfl (by decide) (q_fieldAddr foff69_6 rfl) ?_
    obtain ⟨x6, hx7, h⟩ := h
    refine GoOps.q (v := .bool x6) rfl rfl (by decide) (q_load scalar4 rfl hx7) ?_
    refine GoOps.q (v := .bool x6) rfl rfl (by decide) (q_assign rfl) ?_
    refine GoOps.nil ?_
    rcases bor x6 with hc8 | hc8
    · have h := h.1 hc8
      refine Go.condT (btT rfl hc8) ?_
      refine Go.seq ?_
      refine Go.region rfl ?_
      refine GoOps.q (v := Sl.v Sl.nil) rfl rfl (by decide) (q_assign rfl) ?_
      refine GoOps.q (v := .int .i64 3) rfl rfl (by decide) (q_assign rfl) ?_
      refine GoOps.nil ?_
      exact Go.ret ⟨.inl rfl, _, _, DOk.nil, (resOk2 Try.results14 rfl rfl), ⟨_, _, rfl, h⟩⟩
    · have h := h.2 hc8
      refine Go.condF (btF rfl hc8) ?_
      refine Go.seq ?_
      refine Go.region rfl ?_
      refine GoOps.q (v := .pointer p0) rfl rfl (by decide) (q_move rfl) ?_
      obtain ⟨a9, ha10, h⟩ := h
      refine GoOps.q (v := .pointer (some a9)) rfl rfl (by decide) (q_nilCheck (ptn rfl ha10)) ?_
      refine GoOps.q (v := .pointer (some (a9.add 3))) rfl rfl (by decide) (q_fieldAddr foff69_3 rfl) ?_
      obtain ⟨x11, hx12, h⟩ := h
      refine GoOps.q (v := Sl.v x11) rfl rfl (by decide) (q_load scalar62 rfl hx12) ?_
      refine GoOps.q (v := .int .i64 p1) rfl rfl (by decide) (q_move rfl) ?_
      obtain ⟨a13, ha14, h⟩ := h
      refine GoOps.q (v := .pointer (some a13)) rfl rfl (by decide) (q_idx slice62 ha14 rfl rfl) ?_
      obtain ⟨x15, hx16, h⟩ := h
      refine GoOps.q (v := .bool x15) rfl rfl (by decide) (q_load scalar4 rfl hx16) ?_
      refine GoOps.q (v := .bool x15) rfl rfl (by decide) (q_assign rfl) ?_
      refine GoOps.nil ?_
      rcases bor x15 with hc17 | hc17
      · have h := h.1 hc17
        refine Go.condT (btT rfl hc17) ?_
        refine Go.seq ?_
        refine Go.region rfl ?_
        refine GoOps.q (v := Sl.v Sl.nil) rfl rfl (by decide) (q_assign rfl) ?_
        refine GoOps.q (v := .int .i64 4) rfl rfl (by decide) (q_assign rfl) ?_
        refine GoOps.nil ?_
        exact Go.ret ⟨.inl rfl, _, _, DOk.nil, (resOk2 Try.results14 rfl rfl), ⟨_, _, rfl, h⟩⟩
      · have h := h.2 hc17
        refine Go.condF (btF rfl hc17) ?_
        refine Go.skip ?_
        refine Go.inBlock ?_
        refine Go.seq ?_
        refine Go.region rfl ?_
        refine GoOps.q (v := .pointer p0) rfl rfl (by decide) (q_move rfl) ?_
        obtain ⟨a18, ha19, h⟩ := h
        refine GoOps.q (v := .pointer (some a18)) rfl rfl (by decide) (q_nilCheck (ptn rfl ha19)) ?_
        refine GoOps.q (v := .pointer (some (a18.add 1))) rfl rfl (by decide) (q_fieldAddr foff69_1 rfl) ?_
        obtain ⟨x20, hx21, h⟩ := h
        refine GoOps.q (v := Sl.v x20) rfl rfl (by decide) (q_load scalar66 rfl hx21) ?_
        refine GoOps.q (v := .int .i64 p1) rfl rfl (by decide) (q_move rfl) ?_
        obtain ⟨a22, ha23, h⟩ := h
        refine GoOps.q (v := .pointer (some a22)) rfl rfl (by decide) (q_idx slice66 ha23 rfl rfl) ?_
        obtain ⟨r25, hm24, h⟩ := h
        refine GoOps.q (v := Sl.v r25) rfl rfl (by decide) (q_cutA array72 hm24 rfl rfl rfl) ?_
        refine call_dst rfl (by decide) body35 (slices_Clone_Slbyte_byte_s _ _ _ h) rfl ?_
        rintro _ H26 ⟨y27, rfl, h⟩
        refine GoOps.q (v := Sl.v y27) rfl rfl (by decide) (q_assign rfl) ?_
        refine GoOps.q (v := .int .i64 0) rfl rfl (by decide) (q_assign rfl) ?_
        refine GoOps.nil ?_
        exact Go.ret ⟨.inl rfl, _, _, DOk.nil, (resOk2 Try.results14 rfl rfl), ⟨_, _, rfl, h⟩⟩

/-- keelson.keelsonref1.Equal -/
def keelsonref1_Equal (p0 : Sl) (p1 : Sl) (H : PH) (Q : Bool → PH → Prop) : Prop :=
  mIf ((p0.len : Int) != (p1.len : Int))
  (Q false H)
  (mLoop (fun (s2 : Int) (H5 : PH) (again3 : Int → PH → Prop) =>
  mIf (decide (s2 < (p0.len : Int)))
  (mIdx p0 1 s2 fun a7 =>
  mLd (.int .u8) H5 a7 fun x9 =>
  mIdx p1 1 s2 fun a11 =>
  mLd (.int .u8) H5 a11 fun x13 =>
  mIf (x9 != x13)
  (Q false H5)
  (again3 (IntKind.wrap .i64 (s2 + 1)) H5))
  (Q true H5))
  0 H)

set_option maxRecDepth 20000 in
set_option maxHeartbeats 1000000 in
theorem keelsonref1_Equal_s (p0 : Sl) (p1 : Sl) (H : PH) (Q : Bool → PH → Prop) (h : keelsonref1_Equal p0 p1 H Q) :
    CallsH Try.prog 36 #[Sl.v p0, Sl.v p1] H (fun v H' => ∃ (r0 : Bool), v = .bool r0 ∧ Q r0 H') := by
  unfold keelsonref1_Equal at h
  refine callsH_of_go Try.func36 rfl Try.ntmps36 (Nat.le_of_ble_eq_true rfl) ?_
  refine Go.seq ?_
  refine Go.region rfl ?_
  refine GoOps.q (v := .bool false) rfl rfl (by decide) (q_assign rfl) ?_
  refine GoOps.nil ?_
  refine Go.seq ?_
  refine Go.seq ?_
  refine Go.region rfl ?_
  refine GoOps.q (v := Sl.v p0) rfl rfl (by decide) (q_move rfl) ?_
  refine GoOps.q (v := .int .i64 (p0.len : Int)) rfl rfl (by decide) (q_len Try.underlying28 rfl (ls1 rfl)) ?_
  refine GoOps.q (v := Sl.v p1) rfl rfl (by decide) (q_move rfl) ?_
  refine GoOps.q (v := .int .i64 (p1.len : Int)) rfl rfl (by decide) (q_len Try.underlying28 rfl (ls1 rfl)) ?_
  refine GoOps.q (v := .bool ((p0.len : Int) != (p1.len : Int))) rfl rfl (by decide) (q_neq rfl rfl) ?_
  refine GoOps.nil ?_
  rcases bor ((p0.len : Int) != (p1.len : Int)) with hc1 | hc1
  · have h := h.1 hc1
    refine Go.condT (btT rfl hc1) ?_
    refine Go.seq ?_
    refine Go.region rfl ?_
    refine GoOps.q (v := .bool false) rfl rfl (by decide) (q_assign rfl) ?_
    refine GoOps.nil ?_
    exact Go.ret ⟨.inl rfl, _, _, DOk.nil, (resOk1 Try.results36 rfl), ⟨_, rfl, h⟩⟩
  · have h := h.2 hc1
    refine Go.condF (btF rfl hc1) ?_
    refine Go.skip ?_
    refine Go.seq ?_
    refine Go.seq ?_
    refine Go.region rfl ?_
    refine GoOps.q (v := .int .i64 0) rfl rfl (by decide) (q_assign rfl) ?_
    refine GoOps.nil ?_
    refine Go.block ?_
    refine loop_go (fun ρ (s2 : Int) => ρ 0 = Sl.v p0 ∧ ρ 1 = Sl.v p1 ∧ ρ 5 = .int .i64 s2) h ⟨rfl, rfl, rfl⟩ ?_
    clear h
    intro ρ s2 H5 again3 hE h hagain3
    obtain ⟨e4_0, e4_1, e4_5⟩ := hE
    refine Go.seq ?_
    refine Go.seq ?_
    refine Go.region rfl ?_
    refine GoOps.q (v := .int .i64 s2) rfl rfl (by decide) (q_move e4_5) ?_
    refine GoOps.q (v := Sl.v p0) rfl rfl (by decide) (q_move e4_0) ?_
    refine GoOps.q (v := .int .i64 (p0.len : Int)) rfl rfl (by decide) (q_len Try.underlying28 rfl (ls1 rfl)) ?_
    refine GoOps.q (v := .bool (decide (s2 < (p0.len : Int)))) rfl rfl (by decide) (q_lss rfl rfl) ?_
    refine GoOps.nil ?_
    rcases bor (decide (s2 < (p0.len : Int))) with hc6 | hc6
    · have h := h.1 hc6
      refine Go.condT (btT rfl hc6) ?_
      refine Go.skip ?_
      refine Go.seq ?_
      refine Go.block ?_
      refine Go.seq ?_
      refine Go.draw mixed ?_
      refine plan_pure (i := 0) (d := 17) (S2 := 1) (v := Sl.v p0) rfl (by decide +kernel) rfl (q_move e4_0) ?_
      refine plan_pure (i := 1) (d := 18) (S2 := 3) (v := .int .i64 s2) rfl (by decide +kernel) rfl (q_move e4_5) ?_
      obtain ⟨a7, ha8, h⟩ := h
      refine plan_pure (i := 2) (d := 19) (S2 := 7) (v := .pointer (some a7)) rfl (by decide +kernel) rfl (q_idx slice28 ha8 rfl rfl) ?_
      obtain ⟨x9, hx10, h⟩ := h
      refine plan_load (i := 3) (d := 20) (S2 := 15) (v := .int .u8 x9) rfl (by decide +kernel) rfl (q_load scalar5 rfl hx10) ?_
      refine plan_pure (i := 4) (d := 21) (S2 := 31) (v := Sl.v p1) rfl (by decide +kernel) rfl (q_move e4_1) ?_
      refine plan_pure (i := 5) (d := 22) (S2 := 63) (v := .int .i64 s2) rfl (by decide +kernel) rfl (q_move e4_5) ?_
      obtain ⟨a11, ha12, h⟩ := h
      refine plan_pure (i := 6) (d := 23) (S2 := 127) (v := .pointer (some a11)) rfl (by decide +kernel) rfl (q_idx slice28 ha12 rfl rfl) ?_
      obtain ⟨x13, hx14, h⟩ := h
      refine plan_load (i := 7) (d := 24) (S2 := 255) (v := .int .u8 x13) rfl (by decide +kernel) rfl (q_load scalar5 rfl hx14) ?_
      refine plan_pure (i := 8) (d := 25) (S2 := 511) (v := .bool (x9 != x13)) rfl (by decide +kernel) rfl (q_neq rfl rfl) ?_
      refine plan_done (by decide +kernel) ?_
      rcases bor (x9 != x13) with hc15 | hc15
      · have h := h.1 hc15
        refine Go.condT (btT rfl hc15) ?_
        refine Go.seq ?_
        refine Go.region rfl ?_
        refine GoOps.q (v := .bool false) rfl rfl (by decide) (q_assign rfl) ?_
        refine GoOps.nil ?_
        exact Go.ret ⟨.inl rfl, _, _, DOk.nil, (resOk1 Try.results36 rfl), ⟨_, rfl, h⟩⟩
      · have h := h.2 hc15
        refine Go.condF (btF rfl hc15) ?_
        refine Go.skip ?_
        refine Go.inBlock ?_
        refine Go.region rfl ?_
        refine GoOps.q (v := .int .i64 s2) rfl rfl (by decide) (q_move e4_5) ?_
        refine GoOps.q (v := .int .i64 (IntKind.wrap .i64 (s2 + 1))) rfl rfl (by decide) (q_add rfl rfl) ?_
        refine GoOps.q (v := .int .i64 (IntKind.wrap .i64 (s2 + 1))) rfl rfl (by decide) (q_assign rfl) ?_
        refine GoOps.nil ?_
        exact hagain3 _ _ _ h ⟨e4_0, e4_1, rfl⟩
    · have h := h.2 hc6
      refine Go.condF (btF rfl hc6) ?_
      refine Go.exit rfl ?_
      refine Go.seq ?_
      refine Go.region rfl ?_
      refine GoOps.q (v := .bool true) rfl rfl (by decide) (q_assign rfl) ?_
      refine GoOps.nil ?_
      exact Go.ret ⟨.inl rfl, _, _, DOk.nil, (resOk1 Try.results36 rfl), ⟨_, rfl, h⟩⟩

/-- keelson.keelsonalike.Bytes -/
def keelsonalike_Bytes (p0 : Sl) (p1 : Sl) (H : PH) (Q : Bool → PH → Prop) : Prop :=
  keelsonref1_Equal p0 p1 H fun y2 H1 =>
  Q y2 H1

set_option maxRecDepth 20000 in
set_option maxHeartbeats 1000000 in
theorem keelsonalike_Bytes_s (p0 : Sl) (p1 : Sl) (H : PH) (Q : Bool → PH → Prop) (h : keelsonalike_Bytes p0 p1 H Q) :
    CallsH Try.prog 15 #[Sl.v p0, Sl.v p1] H (fun v H' => ∃ (r0 : Bool), v = .bool r0 ∧ Q r0 H') := by
  unfold keelsonalike_Bytes at h
  refine callsH_of_go Try.func15 rfl Try.ntmps15 (Nat.le_of_ble_eq_true rfl) ?_
  refine Go.seq ?_
  refine Go.region rfl ?_
  refine GoOps.q (v := .bool false) rfl rfl (by decide) (q_assign rfl) ?_
  refine GoOps.nil ?_
  refine Go.seq ?_
  refine Go.region rfl ?_
  refine GoOps.q (v := Sl.v p0) rfl rfl (by decide) (q_move rfl) ?_
  refine GoOps.q (v := Sl.v p1) rfl rfl (by decide) (q_move rfl) ?_
  refine call_dst rfl (by decide) body36 (keelsonref1_Equal_s _ _ _ _ h) rfl ?_
  rintro _ H1 ⟨y2, rfl, h⟩
  refine GoOps.q (v := .bool y2) rfl rfl (by decide) (q_assign rfl) ?_
  refine GoOps.nil ?_
  exact Go.ret ⟨.inl rfl, _, _, DOk.nil, (resOk1 Try.results15 rfl), ⟨_, rfl, h⟩⟩

/-- slices.Clone[[]keelson.vdisk.block,keelson.vdisk.block] -/
def slices_Clone_Slvdisk_block_vdisk_block (p0 : Sl) (H : PH) (Q : Sl → PH → Prop) : Prop :=
  mIf (Option.isNone p0.a)
  (Q Sl.nil H)
  (mNewS H (row [] 72) 0 fun r2 H3 =>
  mApp H3 72 64 64 (List.replicate 64 (.int .u8 0)) r2 p0 fun r5 H6 =>
  Q r5 H6)

set_option maxRecDepth 20000 in
set_option maxHeartbeats 1000000 in
theorem slices_Clone_Slvdisk_block_vdisk_block_s (p0 : Sl) (H : PH) (Q : Sl → PH → Prop) (h : slices_Clone_Slvdisk_block_vdisk_block p0 H Q) :
    CallsH Try.prog 37 #[Sl.v p0] H (fun v H' => ∃ (r0 : Sl), v = Sl.v r0 ∧ Q r0 H') := by
  unfold slices_Clone_Slvdisk_block_vdisk_block at h
  refine callsH_of_go Try.func37 rfl Try.ntmps37 (Nat.le_of_ble_eq_true rfl) ?_
  refine Go.seq ?_
  refine Go.region rfl ?_
  refine GoOps.q (v := Sl.v Sl.nil) rfl rfl (by decide) (q_assign rfl) ?_
  refine GoOps.nil ?_
  refine Go.seq ?_
  refine Go.seq ?_
  refine Go.region rfl ?_
  refine GoOps.q (v := Sl.v p0) rfl rfl (by decide) (q_move rfl) ?_
  refine GoOps.q (v := .bool (Option.isNone p0.a)) rfl rfl (by decide) (q_eqlSn Try.underlying66 rfl rfl) ?_
  refine GoOps.nil ?_
  rcases bor (Option.isNone p0.a) with hc1 | hc1
  · have h := h.1 hc1
    refine Go.condT (btT rfl hc1) ?_
    refine Go.seq ?_
    refine Go.region rfl ?_
    refine GoOps.q (v := Sl.v Sl.nil) rfl rfl (by decide) (q_assign rfl) ?_
    refine GoOps.nil ?_
    exact Go.ret ⟨.inl rfl, _, _, DOk.nil, (resOk1 Try.results37 rfl), ⟨_, rfl, h⟩⟩
  · have h := h.2 hc1
    refine Go.condF (btF rfl hc1) ?_
    refine Go.skip ?_
    refine Go.seq ?_
    refine Go.region rfl ?_
    refine op_dst rfl rfl (by decide) (do_bs0 slice66 fun r2 H3 hb4 => ?_) 
    have h := h r2 H3 hb4
    refine GoOps.q (v := Sl.v p0) rfl rfl (by decide) (q_move rfl) ?_
    refine op_dst rfl rfl (by decide) (do_append (zs := (List.replicate 64 (.int .u8 0))) slice66 bytes72 (by decide) zero72 rfl rfl (by decide) rfl rfl Try.underlying66 rfl h fun r5 H6 h => ?_) 
    refine GoOps.q (v := Sl.v r5) rfl rfl (by decide) (q_assign rfl) ?_
    refine GoOps.nil ?_
    exact Go.ret ⟨.inl rfl, _, _, DOk.nil, (resOk1 Try.results37 rfl), ⟨_, rfl, h⟩⟩

/-- slices.Clone[[]bool,bool] -/
def slices_Clone_Slbool_bool (p0 : Sl) (H : PH) (Q : Sl → PH → Prop) : Prop :=
  mIf (Option.isNone p0.a)
  (Q Sl.nil H)
  (mNewS H (row [] 4) 0 fun r2 H3 =>
  mApp H3 4 1 1 [.bool false] r2 p0 fun r5 H6 =>
  Q r5 H6)

set_option maxRecDepth 20000 in
set_option maxHeartbeats 1000000 in
theorem slices_Clone_Slbool_bool_s (p0 : Sl) (H : PH) (Q : Sl → PH → Prop) (h : slices_Clone_Slbool_bool p0 H Q) :
    CallsH Try.prog 38 #[Sl.v p0] H (fun v H' => ∃ (r0 : Sl), v = Sl.v r0 ∧ Q r0 H') := by
  unfold slices_Clone_Slbool_bool at h
  refine callsH_of_go Try.func38 rfl Try.ntmps38 (Nat.le_of_ble_eq_true rfl) ?_
  refine Go.seq ?_
  refine Go.region rfl ?_
  refine GoOps.q (v := Sl.v Sl.nil) rfl rfl (by decide) (q_assign rfl) ?_
  refine GoOps.nil ?_
  refine Go.seq ?_
  refine Go.seq ?_
  refine Go.region rfl ?_
  refine GoOps.q (v := Sl.v p0) rfl rfl (by decide) (q_move rfl) ?_
  refine GoOps.q (v := .bool (Option.isNone p0.a)) rfl rfl (by decide) (q_eqlSn Try.underlying62 rfl rfl) ?_
  refine GoOps.nil ?_
  rcases bor (Option.isNone p0.a) with hc1 | hc1
  · have h := h.1 hc1
    refine Go.condT (btT rfl hc1) ?_
    refine Go.seq ?_
    refine Go.region rfl ?_
    refine GoOps.q (v := Sl.v Sl.nil) rfl rfl (by decide) (q_assign rfl) ?_
    refine GoOps.nil ?_
    exact Go.ret ⟨.inl rfl, _, _, DOk.nil, (resOk1 Try.results38 rfl), ⟨_, rfl, h⟩⟩
  · have h := h.2 hc1
    refine Go.condF (btF rfl hc1) ?_
    refine Go.skip ?_
    refine Go.seq ?_
    refine Go.region rfl ?_
    refine op_dst rfl rfl (by decide) (do_bs0 slice62 fun r2 H3 hb4 => ?_) 
    have h := h r2 H3 hb4
    refine GoOps.q (v := Sl.v p0) rfl rfl (by decide) (q_move rfl) ?_
    refine op_dst rfl rfl (by decide) (do_append (zs := [.bool false]) slice62 bytes4 (by decide) zero4 rfl rfl (by decide) rfl rfl Try.underlying62 rfl h fun r5 H6 h => ?_) 
    refine GoOps.q (v := Sl.v r5) rfl rfl (by decide) (q_assign rfl) ?_
    refine GoOps.nil ?_
    exact Go.ret ⟨.inl rfl, _, _, DOk.nil, (resOk1 Try.results38 rfl), ⟨_, rfl, h⟩⟩

/-- (*keelson.vdisk.Disk).Crash -/
def vdisk_Disk_Crash (p0 : Option Addr) (p1 : Sl) (H : PH) (Q : Option Addr → PH → Prop) : Prop :=
  mIf (Option.isNone p0)
  (Q none H)
  (mNil p0 fun a2 =>
  mLd Sl.v H (a2.add 0) fun x4 =>
  mNil p0 fun a6 =>
  mLd Sl.v H (a6.add 3) fun x8 =>
  slices_Clone_Slvdisk_block_vdisk_block x4 H fun y11 H10 =>
  mSame H10 (a6.add 3) (Sl.v x8) <|
  slices_Clone_Slbool_bool x8 H10 fun y14 H13 =>
  mNew H13 (row [Sl.v y11, Sl.v Sl.nil, Sl.v Sl.nil, Sl.v y14, .int .i64 (-1), .int .i64 0, .bool false] 69) fun a15 H16 =>
  mNil p0 fun a18 =>
  mLd Sl.v H16 (a18.add 2) fun x20 =>
  mLoop (fun (s22 : Bool × Int) (H25 : PH) (again23 : (Bool × Int) → PH → Prop) =>
  mIf (decide (s22.2 < (x20.len : Int)))
  (mJoin (fun (s27 : Bool) (H29 : PH) =>
  again23 (s27, IntKind.wrap .i64 (s22.2 + 1)) H29)
  fun j28 =>
  mIdx x20 65 s22.2 fun a31 =>
  mLdA H25 a31 65 fun x33 =>
  mNew H25 (row [.int .i64 0, .int .u8 0, .int .u8 0, .int .u8 0, .int .u8 0, .int .u8 0, .int .u8 0, .int .u8 0, .int .u8 0, .int .u8 0, .int .u8 0, .int .u8 0, .int .u8 0, .int .u8 0, .int .u8 0, .int .u8 0, .int .u8 0, .int .u8 0, .int .u8 0, .int .u8 0, .int .u8 0, .int .u8 0, .int .u8 0, .int .u8 0, .int .u8 0, .int .u8 0, .int .u8 0, .int .u8 0, .int .u8 0, .int .u8 0, .int .u8 0, .int .u8 0, .int .u8 0, .int .u8 0, .int .u8 0, .int .u8 0, .int .u8 0, .int .u8 0, .int .u8 0, .int .u8 0, .int .u8 0, .int .u8 0, .int .u8 0, .int .u8 0, .int .u8 0, .int .u8 0, .int .u8 0, .int .u8 0, .int .u8 0, .int .u8 0, .int .u8 0, .int .u8 0, .int .u8 0, .int .u8 0, .int .u8 0, .int .u8 0, .int .u8 0, .int .u8 0, .int .u8 0, .int .u8 0, .int .u8 0, .int .u8 0, .int .u8 0, .int .u8 0, .int .u8 0] 74) fun a35 H36 =>
  mStA H36 a35 65 x33 fun H38 =>
  mJoin (fun (s40 : Int) (H42 : PH) =>
  mIf ((Int.tmod s40 3) == 1)
  (mLd Sl.v H42 (a15.add 0) fun x45 =>
  mLd (.int .i64) H42 (a35.add 0) fun x47 =>
  mLdA H42 (a35.add 1) 64 fun x49 =>
  mIdx x45 64 x47 fun a51 =>
  mStA H42 a51 64 x49 fun H53 =>
  j28 s22.1 H53)
  (mJoin (fun (s56 : Bool) (H58 : PH) =>
  mIf s56
  (mLd Sl.v H58 (a15.add 0) fun x61 =>
  mLd (.int .i64) H58 (a35.add 0) fun x63 =>
  mIdx x61 64 x63 fun a65 =>
  mCutA 64 a65 1 0 (IntKind.wrap .i64 (Int.tdiv s40 3)) fun r68 =>
  mCutA 64 (a35.add 1) 1 0 64 fun r70 =>
  mCopy H58 1 r68 r70 fun x71 H72 =>
  j28 true H72)
  (j28 s22.1 H58))
  fun j57 =>
  mIf ((Int.tmod s40 3) == 2)
  (j57 (!s22.1) H42)
  (j57 false H42)))
  fun j41 =>
  mIf (decide (s22.2 < (p1.len : Int)))
  (mIdx p1 1 s22.2 fun a74 =>
  mLd (.int .i64) H38 a74 fun x76 =>
  j41 (Int.tmod (IntKind.wrap .i64 ((Int.tmod x76 192) + 192)) 192) H38)
  (j41 0 H38))
  (mLd Sl.v H25 (a15.add 0) fun x78 =>
  slices_Clone_Slvdisk_block_vdisk_block x78 H25 fun y81 H80 =>
  mSt H80 (a15.add 1) ([Sl.v y81]) fun H82 =>
  Q (some a15) H82))
  (false, 0) H16)

set_option maxRecDepth 20000 in
set_option maxHeartbeats 1000000 in
theorem vdisk_Disk_Crash_s (p0 : Option Addr) (p1 : Sl) (H : PH) (Q : Option Addr → PH → Prop) (h : vdisk_Disk_Crash p0 p1 H Q) :
    CallsH Try.prog 16 #[.pointer p0, Sl.v p1] H (fun v H' => ∃ (r0 : Option Addr), v = .pointer r0 ∧ Q r0 H') := by
  unfold vdisk_Disk_Crash at h
  refine callsH_of_go Try.func16 rfl Try.ntmps16 (Nat.le_of_ble_eq_true rfl) ?_
  refine Go.seq ?_
  refine Go.region rfl ?_
  refine GoOps.q (v := .pointer none) rfl rfl (by decide) (q_assign rfl) ?_
  refine GoOps.nil ?_
  refine Go.seq ?_
  refine Go.seq ?_
  refine Go.region rfl ?_
  refine GoOps.q (v := .pointer p0) rfl rfl (by decide) (q_move rfl) ?_
  refine GoOps.q (v := .bool (Option.isNone p0)) rfl rfl (by decide) (q_eqlPn Try.underlying23 rfl rfl) ?_
  refine GoOps.nil ?_
  rcases bor (Option.isNone p0) with hc1 | hc1
  · have h := h.1 hc1
    refine Go.condT (btT rfl hc1) ?_
    refine Go.seq ?_
    refine Go.region rfl ?_
    refine GoOps.q (v := .pointer none) rfl rfl (by decide) (q_assign rfl) ?_
    refine GoOps.nil ?_
    exact Go.ret ⟨.inl rfl, _, _, DOk.nil, (resOk1 Try.results16 rfl), ⟨_, rfl, h⟩⟩
  · have h := h.2 hc1
    refine Go.condF (btF rfl hc1) ?_
    refine Go.skip ?_
    refine Go.seq ?_
    refine Go.draw mixed ?_
    refine plan_pure (i := 0) (d := 12) (S2 := 1) (v := .pointer p0) rfl (by decide +kernel) rfl (q_move rfl) ?_
    obtain ⟨a2, ha3, h⟩ := h
    refine plan_pure (i := 1) (d := 13) (S2 := 3) (v := .pointer (some a2)) rfl (by decide +kernel) rfl (q_nilCheck (ptn rfl ha3)) ?_
    refine plan_pure (i := 2) (d := 14) (S2 := 7) (v := .pointer (some (a2.add 0))) rfl (by decide +kernel) rfl (q_fieldAddr foff69_0 rfl) ?_
    obtain ⟨x4, hx5, h⟩ := h
    refine plan_load (i := 3) (d := 15) (S2 := 15) (v := Sl.v x4) rfl (by decide +kernel) rfl (q_load scalar66 rfl hx5) ?_
    refine plan_pure (i := 5) (d := 17) (S2 := 47) (v := .pointer p0) rfl (by decide +kernel) rfl (q_move rfl) ?_
    obtain ⟨a6, ha7, h⟩ := h
    refine plan_pure (i := 6) (d := 18) (S2 := 111) (v := .pointer (some a6)) rfl (by decide +kernel) rfl (q_nilCheck (ptn rfl ha7)) ?_
    refine plan_pure (i := 7) (d := 19) (S2 := 239) (v := .pointer (some (a6.add 3))) rfl (by decide +kernel) rfl (q_fieldAddr foff69_3 rfl) ?_
    obtain ⟨x8, hx9, h⟩ := h
    refine plan_load (i := 8) (d := 20) (S2 := 495) (v := Sl.v x8) rfl (by decide +kernel) rfl (q_load scalar62 rfl hx9) ?_
    refine plan_one (j := 4) (S2 := 511) (by decide +kernel) rfl (by decide) rfl ?_
    refine do_call2 body37 (slices_Clone_Slvdisk_block_vdisk_block_s _ _ _ h) rfl ?_
    rintro _ H10 ⟨y11, rfl, h⟩
    obtain ⟨hr12, h⟩ := h
    refine ⟨_, (.inr ⟨⟨_, _, rfl, rfl, q_load scalar62 rfl hr12⟩, _, rfl, .inl ⟨⟨[4], by decide +kernel, rfl⟩, rfl⟩⟩), ?_⟩
    refine plan_one (j := 9) (S2 := 1023) (by decide +kernel) rfl (by decide) rfl ?_
    refine do_call2 body38 (slices_Clone_Slbool_bool_s _ _ _ h) rfl ?_
    rintro _ H13 ⟨y14, rfl, h⟩
    refine ⟨_, (.inl ⟨⟨[9], by decide +kernel, rfl⟩, rfl⟩), ?_⟩
    refine plan_pure (i := 10) (d := 22) (S2 := 2047) (v := .agg ([Sl.v y11, Sl.v Sl.nil, Sl.v Sl.nil, Sl.v y14, .int .i64 (-1), .int .i64 0, .bool false] : List Value).toArray) rfl (by decide +kernel) rfl (q_build (ps := [(0, Sl.v y11), (3, Sl.v y14), (4, .int .i64 (-1))]) (cs := [Sl.v y11, Sl.v Sl.nil, Sl.v Sl.nil, Sl.v y14, .int .i64 (-1), .int .i64 0, .bool false]) places69 zero69 rfl rfl rfl) ?_
    refine plan_one (j := 11) (S2 := 4095) (by decide +kernel) rfl (by decide) rfl ?_
    refine do_newBox (cs := [Sl.v y11, Sl.v Sl.nil, Sl.v Sl.nil, Sl.v y14, .int .i64 (-1), .int .i64 0, .bool false]) rfl rfl fun a15 H16 hb17 => ?_
    have h := h a15 H16 hb17
    refine ⟨_, rfl, ?_⟩
    refine plan_pure (i := 12) (d := 5) (S2 := 8191) (v := .pointer (some a15)) rfl (by decide +kernel) rfl (q_assign rfl) ?_
    refine plan_done (by decide +kernel) ?_
    refine Go.seq ?_
    refine Go.region rfl ?_
    refine GoOps.q (v := .bool false) rfl rfl (by decide) (q_assign rfl) ?_
    refine GoOps.nil ?_
    refine Go.seq ?_
    refine Go.seq ?_
    refine Go.region rfl ?_
    refine GoOps.q (v := .pointer p0) rfl rfl (by decide) (q_move rfl) ?_
    obtain ⟨a18, ha19, h⟩ := h
    refine GoOps.q (v := .pointer (some a18)) rfl rfl (by decide) (q_nilCheck (ptn rfl ha19)) ?_
    refine GoOps.q (v := .pointer (some (a18.add 2))) rfl rfl (by decide) (q_fieldAddr foff69_2 rfl) ?_
    obtain ⟨x20, hx21, h⟩ := h
    refine GoOps.q (v := Sl.v x20) rfl rfl (by decide) (q_load scalar67 rfl hx21) ?_
    refine GoOps.q (v := .int .i64 (x20.len : Int)) rfl rfl (by decide) (q_len Try.underlying67 rfl (ls1 rfl)) ?_
    refine GoOps.q (v := .int .i64 0) rfl rfl (by decide) (q_move rfl) ?_
    refine GoOps.nil ?_
    refine Go.block ?_
    refine loop_go (fun ρ (s22 : Bool × Int) => ρ 1 = Sl.v p1 ∧ ρ 5 = .pointer (some a15) ∧ ρ 6 = .bool s22.1 ∧ ρ 27 = Sl.v x20 ∧ ρ 28 = .int .i64 (x20.len : Int) ∧ ρ 29 = .int .i64 s22.2) h ⟨rfl, rfl, rfl, rfl, rfl, rfl⟩ ?_
    clear h
    intro ρ s22 H25 again23 hE h hagain23
    obtain ⟨e24_1, e24_5, e24_6, e24_27, e24_28, e24_29⟩ := hE
    refine Go.seq ?_
    refine Go.region rfl ?_
    refine GoOps.q (v := .bool (decide (s22.2 < (x20.len : Int)))) rfl rfl (by decide) (q_lss e24_29 e24_28) ?_
    refine GoOps.nil ?_
    refine Go.seq ?_
    rcases bor (decide (s22.2 < (x20.len : Int))) with hc26 | hc26
    · have h := h.1 hc26
      refine Go.condT (btT rfl hc26) ?_
      refine Go.skip ?_
      refine Go.seq ?_
      refine join_go 1 (fun ρ (s27 : Bool) => ρ 1 = Sl.v p1 ∧ ρ 5 = .pointer (some a15) ∧ ρ 6 = .bool s27 ∧ ρ 27 = Sl.v x20 ∧ ρ 28 = .int .i64 (x20.len : Int) ∧ ρ 29 = .int .i64 s22.2) h ?_ ?_ <;> clear h
      · intro s27 H29 ρ h hE
        obtain ⟨e30_1, e30_5, e30_6, e30_27, e30_28, e30_29⟩ := hE
        refine Go.region rfl ?_
        refine GoOps.q (v := .int .i64 (IntKind.wrap .i64 (s22.2 + 1))) rfl rfl (by decide) (q_add e30_29 rfl) ?_
        refine GoOps.q (v := .int .i64 (IntKind.wrap .i64 (s22.2 + 1))) rfl rfl (by decide) (q_move rfl) ?_
        refine GoOps.nil ?_
        exact hagain23 _ _ _ h ⟨e30_1, e30_5, e30_6, e30_27, e30_28, rfl⟩
      · intro j28 hj28 h
        refine Go.block ?_
        refine Go.seq ?_
        refine Go.region rfl ?_
        refine GoOps.q (v := .int .i64 s22.2) rfl rfl (by decide) (q_move e24_29) ?_
        obtain ⟨a31, ha32, h⟩ := h
        refine GoOps.q (v := .pointer (some a31)) rfl rfl (by decide) (q_idx slice67 ha32 e24_27 e24_29) ?_
        obtain ⟨x33, hx34, h⟩ := h
        refine GoOps.q (v := .agg (x33 : List Value).toArray) rfl rfl (by decide) (q_loadA aggr74 rfl hx34) ?_
        refine op_dst rfl rfl (by decide) (do_new zero74 rfl fun a35 H36 hb37 => ?_) 
        have h := h a35 H36 hb37
        refine GoOps.q (v := .int .i64 s22.2) rfl rfl (by decide) (q_assign rfl) ?_
        obtain ⟨hq39n, q39b, q39o, q39c, q39e, hq39a, hq39b, hq39l, hq39v, h⟩ := h
        refine op_none rfl rfl (do_store (vs := x33) size74 (pta rfl hq39a) rfl rfl hq39n hq39v hq39b hq39l ?_) 
        refine GoOps.nil ?_
        refine Go.seq ?_
        refine Go.region rfl ?_
        refine GoOps.q (v := .int .i64 0) rfl rfl (by decide) (q_assign rfl) ?_
        refine GoOps.nil ?_
        refine Go.seq ?_
        refine Go.seq ?_
        refine Go.region rfl ?_
        refine GoOps.q (v := .int .i64 s22.2) rfl rfl (by decide) (q_move rfl) ?_
        refine GoOps.q (v := Sl.v p1) rfl rfl (by decide) (q_move e24_1) ?_
        refine GoOps.q (v := .int .i64 (p1.len : Int)) rfl rfl (by decide) (q_len Try.underlying37 rfl (ls1 rfl)) ?_
        refine GoOps.q (v := .bool (decide (s22.2 < (p1.len : Int)))) rfl rfl (by decide) (q_lss rfl rfl) ?_
        refine GoOps.nil ?_
        refine join_go 1 (fun ρ (s40 : Int) => ρ 1 = Sl.v p1 ∧ ρ 5 = .pointer (some a15) ∧ ρ 6 = .bool s22.1 ∧ ρ 8 = .pointer (some a35) ∧ ρ 9 = .int .i64 s40 ∧ ρ 27 = Sl.v x20 ∧ ρ 28 = .int .i64 (x20.len : Int) ∧ ρ 29 = .int .i64 s22.2) h ?_ ?_ <;> clear h
        · intro s40 H42 ρ h hE
          obtain ⟨e43_1, e43_5, e43_6, e43_8, e43_9, e43_27, e43_28, e43_29⟩ := hE
          refine Go.block ?_
          refine Go.seq ?_
          refine Go.region rfl ?_
          refine GoOps.q (v := .int .i64 s40) rfl rfl (by decide) (q_move e43_9) ?_
          refine GoOps.q (v := .int .i64 (Int.tmod s40 3)) rfl rfl (by decide) (q_rem (by decide) rfl rfl) ?_
          refine GoOps.q (v := .bool ((Int.tmod s40 3) == 1)) rfl rfl (by decide) (q_eql rfl rfl) ?_
          refine GoOps.q (v := .bool ((Int.tmod s40 3) == 1)) rfl rfl (by decide) (q_assign rfl) ?_
          refine GoOps.nil ?_
          rcases bor ((Int.tmod s40 3) == 1) with hc44 | hc44
          · have h := h.1 hc44
            refine Go.condT (btT rfl hc44) ?_
            refine Go.draw mixed ?_
            refine plan_pure (i := 0) (d := 49) (S2 := 1) (v := .pointer (some a15)) rfl (by decide +kernel) rfl (q_move e43_5) ?_
            refine plan_pure (i := 1) (d := 50) (S2 := 3) (v := .pointer (some a15)) rfl (by decide +kernel) rfl (q_nilCheck rfl) ?_
            refine plan_pure (i := 2) (d := 51) (S2 := 7) (v := .pointer (some (a15.add 0))) rfl (by decide +kernel) rfl (q_fieldAddr foff69_0 rfl) ?_
            obtain ⟨x45, hx46, h⟩ := h
            refine plan_load (i := 3) (d := 52) (S2 := 15) (v := Sl.v x45) rfl (by decide +kernel) rfl (q_load scalar66 rfl hx46) ?_
            refine plan_pure (i := 4) (d := 53) (S2 := 31) (v := .pointer (some (a35.add 0))) rfl (by decide +kernel) rfl (q_fieldAddr foff74_0 e43_8) ?_
            obtain ⟨x47, hx48, h⟩ := h
            refine plan_load (i := 5) (d := 54) (S2 := 63) (v := .int .i64 x47) rfl (by decide +kernel) rfl (q_load scalar3 rfl hx48) ?_
            refine plan_pure (i := 6) (d := 55) (S2 := 127) (v := .pointer (some (a35.add 1))) rfl (by decide +kernel) rfl (q_fieldAddr foff74_1 e43_8) ?_
            obtain ⟨x49, hx50, h⟩ := h
            refine plan_load (i := 7) (d := 56) (S2 := 255) (v := .agg (x49 : List Value).toArray) rfl (by decide +kernel) rfl (q_loadA aggr72 rfl hx50) ?_
            obtain ⟨a51, ha52, h⟩ := h
            refine plan_pure (i := 8) (d := 57) (S2 := 511) (v := .pointer (some a51)) rfl (by decide +kernel) rfl (q_idx slice66 ha52 rfl rfl) ?_
            refine plan_one (j := 9) (S2 := 1023) (by decide +kernel) rfl (by decide) rfl ?_
            obtain ⟨hq54n, q54b, q54o, q54c, q54e, hq54a, hq54b, hq54l, hq54v, h⟩ := h
            refine do_store (vs := x49) size72 (pta rfl hq54a) rfl rfl hq54n hq54v hq54b hq54l ?_
            refine ⟨_, (.inl ⟨⟨[9], by decide +kernel, rfl⟩, .inl ⟨⟨[9], by decide +kernel, rfl⟩, .inl ⟨⟨[9], by decide +kernel, rfl⟩, rfl⟩⟩⟩), ?_⟩
            refine plan_done (by decide +kernel) ?_
            refine Go.inBlock ?_
            refine Go.inBlock ?_
            exact hj28 _ _ _ h ⟨e43_1, e43_5, e43_6, e43_27, e43_28, e43_29⟩
          · have h := h.2 hc44
            refine Go.condF (btF rfl hc44) ?_
            refine Go.seq ?_
            refine Go.region rfl ?_
            refine GoOps.q (v := .int .i64 s40) rfl rfl (by decide) (q_move e43_9) ?_
            refine GoOps.q (v := .int .i64 (Int.tmod s40 3)) rfl rfl (by decide) (q_rem (by decide) rfl rfl) ?_
            refine GoOps.q (v := .bool ((Int.tmod s40 3) == 2)) rfl rfl (by decide) (q_eql rfl rfl) ?_
            refine GoOps.q (v := .bool ((Int.tmod s40 3) == 2)) rfl rfl (by decide) (q_move rfl) ?_
            refine join_ops 3 (fun ρ (s56 : Bool) => ρ 1 = Sl.v p1 ∧ ρ 5 = .pointer (some a15) ∧ ρ 6 = .bool s22.1 ∧ ρ 8 = .pointer (some a35) ∧ ρ 9 = .int .i64 s40 ∧ ρ 27 = Sl.v x20 ∧ ρ 28 = .int .i64 (x20.len : Int) ∧ ρ 29 = .int .i64 s22.2 ∧ ρ 65 = .bool s56) h ?_ ?_ <;> clear h
            · intro s56 H58 ρ h hE
              obtain ⟨e59_1, e59_5, e59_6, e59_8, e59_9, e59_27, e59_28, e59_29, e59_65⟩ := hE
              refine GoOps.q (v := .bool s56) rfl rfl (by decide) (q_assign e59_65) ?_
              refine GoOps.nil ?_
              rcases bor s56 with hc60 | hc60
              · have h := h.1 hc60
                refine Go.condT (btT rfl hc60) ?_
                refine Go.seq ?_
                refine Go.region rfl ?_
                refine GoOps.q (v := .bool true) rfl rfl (by decide) (q_assign rfl) ?_
                refine GoOps.nil ?_
                refine Go.draw mixed ?_
                refine plan_pure (i := 0) (d := 66) (S2 := 1) (v := .pointer (some a15)) rfl (by decide +kernel) rfl (q_move e59_5) ?_
                refine plan_pure (i := 1) (d := 67) (S2 := 3) (v := .pointer (some a15)) rfl (by decide +kernel) rfl (q_nilCheck rfl) ?_
                refine plan_pure (i := 2) (d := 68) (S2 := 7) (v := .pointer (some (a15.add 0))) rfl (by decide +kernel) rfl (q_fieldAddr foff69_0 rfl) ?_
                obtain ⟨x61, hx62, h⟩ := h
                refine plan_load (i := 3) (d := 69) (S2 := 15) (v := Sl.v x61) rfl (by decide +kernel) rfl (q_load scalar66 rfl hx62) ?_
                refine plan_pure (i := 4) (d := 70) (S2 := 31) (v := .pointer (some (a35.add 0))) rfl (by decide +kernel) rfl (q_fieldAddr foff74_0 e59_8) ?_
                obtain ⟨x63, hx64, h⟩ := h
                refine plan_load (i := 5) (d := 71) (S2 := 63) (v := .int .i64 x63) rfl (by decide +kernel) rfl (q_load scalar3 rfl hx64) ?_
                obtain ⟨a65, ha66, h⟩ := h
                refine plan_pure (i := 6) (d := 72) (S2 := 127) (v := .pointer (some a65)) rfl (by decide +kernel) rfl (q_idx slice66 ha66 rfl rfl) ?_
                refine plan_pure (i := 7) (d := 73) (S2 := 255) (v := .int .i64 s40) rfl (by decide +kernel) rfl (q_move e59_9) ?_
                refine plan_pure (i := 8) (d := 74) (S2 := 511) (v := .int .i64 (IntKind.wrap .i64 (Int.tdiv s40 3))) rfl (by decide +kernel) rfl (q_quo (by decide) rfl rfl) ?_
                obtain ⟨r68, hm67, h⟩ := h
                refine plan_pure (i := 9) (d := 75) (S2 := 1023) (v := Sl.v r68) rfl (by decide +kernel) rfl (q_cutA array72 hm67 rfl rfl ⟨_, rfl⟩) ?_
                refine plan_pure (i := 10) (d := 76) (S2 := 2047) (v := .pointer (some (a35.add 1))) rfl (by decide +kernel) rfl (q_fieldAddr foff74_1 e59_8) ?_
                obtain ⟨r70, hm69, h⟩ := h
                refine plan_pure (i := 11) (d := 77) (S2 := 4095) (v := Sl.v r70) rfl (by decide +kernel) rfl (q_cutA array72 hm69 rfl rfl rfl) ?_
                refine plan_one (j := 12) (S2 := 8191) (by decide +kernel) rfl (by decide) rfl ?_
                refine do_copy slice28 rfl rfl h fun x71 H72 h => ?_
                refine ⟨_, (.inl ⟨⟨[6, 9, 12], by decide +kernel, rfl⟩, .inl ⟨⟨[6, 9, 12], by decide +kernel, rfl⟩, rfl⟩⟩), ?_⟩
                refine plan_done (by decide +kernel) ?_
                refine Go.inBlock ?_
                refine Go.inBlock ?_
                exact hj28 _ _ _ h ⟨e59_1, e59_5, rfl, e59_27, e59_28, e59_29⟩
              · have h := h.2 hc60
                refine Go.condF (btF rfl hc60) ?_
                refine Go.skip ?_
                refine Go.inBlock ?_
                refine Go.inBlock ?_
                exact hj28 _ _ _ h ⟨e59_1, e59_5, e59_6, e59_27, e59_28, e59_29⟩
            · intro j57 hj57 h
              rcases bor ((Int.tmod s40 3) == 2) with hc55 | hc55
              · have h := h.1 hc55
                refine GoOps.q (v := .bool s22.1) (want_yes rfl rfl rfl hc55) rfl (by decide) (q_move e43_6) ?_
                refine GoOps.q (v := .bool (!s22.1)) (want_yes rfl rfl rfl hc55) rfl (by decide) (q_not rfl) ?_
                refine GoOps.q (v := .bool (!s22.1)) rfl rfl (by decide) (q_pickT (btT rfl hc55) rfl) ?_
                exact hj57 (!s22.1) _ _ h (by exact ⟨e43_1, e43_5, e43_6, e43_8, e43_9, e43_27, e43_28, e43_29, rfl⟩)
              · have h := h.2 hc55
                refine no_dst (want_no rfl rfl rfl hc55) rfl (by decide) ?_
                refine no_dst (want_no rfl rfl rfl hc55) rfl (by decide) ?_
                refine GoOps.q (v := .bool false) rfl rfl (by decide) (q_pickF (btF rfl hc55) rfl) ?_
                exact hj57 false _ _ h (by exact ⟨e43_1, e43_5, e43_6, e43_8, e43_9, e43_27, e43_28, e43_29, rfl⟩)
        · intro j41 hj41 h
          rcases bor (decide (s22.2 < (p1.len : Int))) with hc73 | hc73
          · have h := h.1 hc73
            refine Go.condT (btT rfl hc73) ?_
            refine Go.region rfl ?_
            refine GoOps.q (v := Sl.v p1) rfl rfl (by decide) (q_move e24_1) ?_
            refine GoOps.q (v := .int .i64 s22.2) rfl rfl (by decide) (q_move rfl) ?_
            obtain ⟨a74, ha75, h⟩ := h
            refine GoOps.q (v := .pointer (some a74)) rfl rfl (by decide) (q_idx slice37 ha75 rfl rfl) ?_
            obtain ⟨x76, hx77, h⟩ := h
            refine GoOps.q (v := .int .i64 x76) rfl rfl (by decide) (q_load scalar3 rfl hx77) ?_
            refine GoOps.q (v := .int .i64 (Int.tmod x76 192)) rfl rfl (by decide) (q_rem (by decide) rfl rfl) ?_
            refine GoOps.q (v := .int .i64 (IntKind.wrap .i64 ((Int.tmod x76 192) + 192))) rfl rfl (by decide) (q_add rfl rfl) ?_
            refine GoOps.q (v := .int .i64 (Int.tmod (IntKind.wrap .i64 ((Int.tmod x76 192) + 192)) 192)) rfl rfl (by decide) (q_rem (by decide) rfl rfl) ?_
            refine GoOps.q (v := .int .i64 (Int.tmod (IntKind.wrap .i64 ((Int.tmod x76 192) + 192)) 192)) rfl rfl (by decide) (q_assign rfl) ?_
            refine GoOps.nil ?_
            exact hj41 _ _ _ h ⟨e24_1, e24_5, e24_6, rfl, rfl, e24_27, e24_28, e24_29⟩
          · have h := h.2 hc73
            refine Go.condF (btF rfl hc73) ?_
            refine Go.skip ?_
            exact hj41 _ _ _ h ⟨e24_1, e24_5, e24_6, rfl, rfl, e24_27, e24_28, e24_29⟩
    · have h := h.2 hc26
      refine Go.condF (btF rfl hc26) ?_
      refine Go.exit rfl ?_
      refine Go.seq ?_
      refine Go.region rfl ?_
      refine GoOps.q (v := .pointer (some a15)) rfl rfl (by decide) (q_move e24_5) ?_
      refine GoOps.q (v := .pointer (some a15)) rfl rfl (by decide) (q_move e24_5) ?_
      refine GoOps.q (v := .pointer (some a15)) rfl rfl (by decide) (q_nilCheck rfl) ?_
      refine GoOps.q (v := .pointer (some (a15.add 0))) rfl rfl (by decide) (q_fieldAddr foff69_0 rfl) ?_
      obtain ⟨x78, hx79, h⟩ := h
      refine GoOps.q (v := Sl.v x78) rfl rfl (by decide) (q_load scalar66 rfl hx79) ?_
      refine call_dst rfl (by decide) body37 (slices_Clone_Slvdisk_block_vdisk_block_s _ _ _ h) rfl ?_
      rintro _ H80 ⟨y81, rfl, h⟩
      refine GoOps.q (v := .pointer (some a15)) rfl rfl (by decide) (q_nilCheck rfl) ?_
      refine GoOps.q (v := .pointer (some (a15.add 1))) rfl rfl (by decide) (q_fieldAddr foff69_1 rfl) ?_
      obtain ⟨q83b, q83o, q83c, q83e, hq83a, hq83b, hq83l, hq83v, h⟩ := h
      refine op_none rfl rfl (do_store (vs := [Sl.v y81]) size66 (pta rfl hq83a) rfl rfl rfl hq83v hq83b hq83l ?_) 
      refine GoOps.nil ?_
      refine Go.seq ?_
      refine Go.region rfl ?_
      refine GoOps.q (v := .pointer (some a15)) rfl rfl (by decide) (q_move e24_5) ?_
      refine GoOps.q (v := .pointer (some a15)) rfl rfl (by decide) (q_assign rfl) ?_
      refine GoOps.nil ?_
      exact Go.ret ⟨.inl rfl, _, _, DOk.nil, (resOk1 Try.results16 rfl), ⟨_, rfl, h⟩⟩

/-- (*keelson.vdisk.Disk).Held -/
def vdisk_Disk_Held (p0 : Option Addr) (H : PH) (Q : Int → PH → Prop) : Prop :=
  mIf (Option.isNone p0)
  (Q 0 H)
  (mNil p0 fun a2 =>
  mLd Sl.v H (a2.add 2) fun x4 =>
  Q (x4.len : Int) H)

set_option maxRecDepth 20000 in
set_option maxHeartbeats 1000000 in
theorem vdisk_Disk_Held_s (p0 : Option Addr) (H : PH) (Q : Int → PH → Prop) (h : vdisk_Disk_Held p0 H Q) :
    CallsH Try.prog 19 #[.pointer p0] H (fun v H' => ∃ (r0 : Int), v = .int .i64 r0 ∧ Q r0 H') := by
  unfold vdisk_Disk_Held at h
  refine callsH_of_go Try.func19 rfl Try.ntmps19 (Nat.le_of_ble_eq_true rfl) ?_
  refine Go.seq ?_
  refine Go.region rfl ?_
  refine GoOps.q (v := .int .i64 0) rfl rfl (by decide) (q_assign rfl) ?_
  refine GoOps.nil ?_
  refine Go.seq ?_
  refine Go.seq ?_
  refine Go.region rfl ?_
  refine GoOps.q (v := .pointer p0) rfl rfl (by decide) (q_move rfl) ?_
  refine GoOps.q (v := .bool (Option.isNone p0)) rfl rfl (by decide) (q_eqlPn Try.underlying23 rfl rfl) ?_
  refine GoOps.nil ?_
  rcases bor (Option.isNone p0) with hc1 | hc1
  · have h := h.1 hc1
    refine Go.condT (btT rfl hc1) ?_
    refine Go.seq ?_
    refine Go.region rfl ?_
    refine GoOps.q (v := .int .i64 0) rfl rfl (by decide) (q_assign rfl) ?_
    refine GoOps.nil ?_
    exact Go.ret ⟨.inl rfl, _, _, DOk.nil, (resOk1 Try.results19 rfl), ⟨_, rfl, h⟩⟩
  · have h := h.2 hc1
    refine Go.condF (btF rfl hc1) ?_
    refine Go.skip ?_
    refine Go.seq ?_
    refine Go.region rfl ?_
    refine GoOps.q (v := .pointer p0) rfl rfl (by decide) (q_move rfl) ?_
    obtain ⟨a2, ha3, h⟩ := h
    refine GoOps.q (v := .pointer (some a2)) rfl rfl (by decide) (q_nilCheck (ptn rfl ha3)) ?_
    refine GoOps.q (v := .pointer (some (a2.add 2))) rfl rfl (by decide) (q_fieldAddr foff69_2 rfl) ?_
    obtain ⟨x4, hx5, h⟩ := h
    refine GoOps.q (v := Sl.v x4) rfl rfl (by decide) (q_load scalar67 rfl hx5) ?_
    refine GoOps.q (v := .int .i64 (x4.len : Int)) rfl rfl (by decide) (q_len Try.underlying67 rfl (ls1 rfl)) ?_
    refine GoOps.q (v := .int .i64 (x4.len : Int)) rfl rfl (by decide) (q_assign rfl) ?_
    refine GoOps.nil ?_
    exact Go.ret ⟨.inl rfl, _, _, DOk.nil, (resOk1 Try.results19 rfl), ⟨_, rfl, h⟩⟩

/-- (*keelson.vdisk.Disk).Off -/
def vdisk_Disk_Off (p0 : Option Addr) (H : PH) (Q : Bool → PH → Prop) : Prop :=
  mJoin (fun (s2 : Bool) (H4 : PH) =>
  Q s2 H4)
  fun j3 =>
  mIf (Option.isNone p0)
  (j3 true H)
  (mNil p0 fun a6 =>
  mLd .bool H (a6.add 6) fun x8 =>
  j3 x8 H)

set_option maxRecDepth 20000 in
set_option maxHeartbeats 1000000 in
theorem vdisk_Disk_Off_s (p0 : Option Addr) (H : PH) (Q : Bool → PH → Prop) (h : vdisk_Disk_Off p0 H Q) :
    CallsH Try.prog 21 #[.pointer p0] H (fun v H' => ∃ (r0 : Bool), v = .bool r0 ∧ Q r0 H') := by
  unfold vdisk_Disk_Off at h
  refine callsH_of_go Try.func21 rfl Try.ntmps21 (Nat.le_of_ble_eq_true rfl) ?_
  refine Go.seq ?_
  refine Go.region rfl ?_
  refine GoOps.q (v := .bool false) rfl rfl (by decide) (q_assign rfl) ?_
  refine GoOps.nil ?_
  refine Go.seq ?_
  refine Go.region rfl ?_
  refine GoOps.q (v := .pointer p0) rfl rfl (by decide) (q_move rfl) ?_
  refine GoOps.q (v := .bool (Option.isNone p0)) rfl rfl (by decide) (q_eqlPn Try.underlying23 rfl rfl) ?_
  refine GoOps.q (v := .bool (Option.isNone p0)) rfl rfl (by decide) (q_move rfl) ?_
  refine join_ops 5 (fun ρ (s2 : Bool) => ρ 10 = .bool s2) h ?_ ?_ <;> clear h
  · intro s2 H4 ρ h hE
    have e5_10 := hE
    refine GoOps.q (v := .bool s2) rfl rfl (by decide) (q_assign e5_10) ?_
    refine GoOps.nil ?_
    exact Go.ret ⟨.inl rfl, _, _, DOk.nil, (resOk1 Try.results21 rfl), ⟨_, rfl, h⟩⟩
  · intro j3 hj3 h
    rcases bor (Option.isNone p0) with hc1 | hc1
    · have h := h.1 hc1
      refine no_dst (want_no rfl rfl rfl hc1) rfl (by decide) ?_
      refine no_dst (want_no rfl rfl rfl hc1) rfl (by decide) ?_
      refine no_dst (want_no rfl rfl rfl hc1) rfl (by decide) ?_
      refine no_dst (want_no rfl rfl rfl hc1) rfl (by decide) ?_
      refine GoOps.q (v := .bool true) rfl rfl (by decide) (q_pickT (btT rfl hc1) rfl) ?_
      exact hj3 true _ _ h (by exact rfl)
    · have h := h.2 hc1
      refine GoOps.q (v := .pointer p0) (want_yes rfl rfl rfl hc1) rfl (by decide) (q_move rfl) ?_
      obtain ⟨a6, ha7, h⟩ := h
      refine GoOps.q (v := .pointer (some a6)) (want_yes rfl rfl rfl hc1) rfl (by decide) (q_nilCheck (ptn rfl ha7)) ?_
      refine GoOps.q (v := .pointer (some (a6.add 6))) (want_yes rfl rfl rfl hc1) rfl (by decide) (q_fieldAddr foff69_6 rfl) ?_
      obtain ⟨x8, hx9, h⟩ := h
      refine GoOps.q (v := .bool x8) (want_yes rfl rfl rfl hc1) rfl (by decide) (q_load scalar4 rfl hx9) ?_
      refine GoOps.q (v := .bool x8) rfl rfl (by decide) (q_pickF (btF rfl hc1) rfl) ?_
      exact hj3 x8 _ _ h (by exact rfl)

/-- keelson.keelsonlaw3.awake -/
def keelsonlaw3_awake (H : PH) (Q : Bool → PH → Prop) : Prop :=
  vdisk_New 4 H fun y2 y3 H1 =>
  vdisk_New 0 H1 fun y5 y6 H4 =>
  mJoin (fun (s8 : Bool) (H10 : PH) =>
  mIf s8
  (Q false H10)
  (keelsonalike_Fill 1 H10 fun y14 H13 =>
  vdisk_Disk_Write y2 0 y14 H13 fun y16 H15 =>
  mNewS H15 (row [.int .i64 1] 3) 1 fun r17 H18 =>
  vdisk_Disk_Crash y2 r17 H18 fun y21 H20 =>
  vdisk_Disk_Crash y2 Sl.nil H20 fun y23 H22 =>
  mNewS H22 (row [.int .i64 5] 3) 1 fun r24 H25 =>
  vdisk_Disk_Crash y2 r24 H25 fun y28 H27 =>
  mJoin (fun (s30 : Bool) (H32 : PH) =>
  mJoin (fun (s35 : Bool) (H37 : PH) =>
  mIf s35
  (Q false H37)
  (vdisk_Disk_Read y21 0 H37 fun y41 y42 H40 =>
  vdisk_Disk_Read y23 0 H40 fun y44 y45 H43 =>
  vdisk_Disk_Read y28 0 H43 fun y47 y48 H46 =>
  mJoin (fun (s50 : Bool) (H52 : PH) =>
  mJoin (fun (s55 : Bool) (H57 : PH) =>
  mIf s55
  (Q false H57)
  (mJoin (fun (s61 : Bool) (H63 : PH) =>
  mJoin (fun (s66 : Bool) (H68 : PH) =>
  mJoin (fun (s71 : Bool) (H73 : PH) =>
  mJoin (fun (s76 : Bool) (H78 : PH) =>
  mJoin (fun (s81 : Bool) (H83 : PH) =>
  mJoin (fun (s86 : Bool) (H88 : PH) =>
  mJoin (fun (s91 : Bool) (H93 : PH) =>
  mJoin (fun (s96 : Bool) (H98 : PH) =>
  mJoin (fun (s101 : Bool) (H103 : PH) =>
  Q s101 H103)
  fun j102 =>
  mIf s96
  (vdisk_Disk_Crash none Sl.nil H98 fun y106 H105 =>
  j102 (Option.isNone y106) H105)
  (j102 false H98))
  fun j97 =>
  mIf s91
  (vdisk_Disk_Off none H93 fun y108 H107 =>
  j97 y108 H107)
  (j97 false H93))
  fun j92 =>
  mIf s86
  (vdisk_Disk_Held y2 H88 fun y110 H109 =>
  j92 (y110 == 1) H109)
  (j92 false H88))
  fun j87 =>
  mIf s81
  (mIdx y47 1 1 fun a111 =>
  mLd (.int .u8) H83 a111 fun x113 =>
  j87 (x113 == 0) H83)
  (j87 false H83))
  fun j82 =>
  mIf s76
  (mIdx y47 1 0 fun a115 =>
  mLd (.int .u8) H78 a115 fun x117 =>
  j82 (x117 == 1) H78)
  (j82 false H78))
  fun j77 =>
  mIf s71
  (mIdx y44 1 0 fun a119 =>
  mLd (.int .u8) H73 a119 fun x121 =>
  j77 (x121 == 0) H73)
  (j77 false H73))
  fun j72 =>
  mIf s66
  (keelsonalike_Fill 1 H68 fun y124 H123 =>
  keelsonalike_Bytes y41 y124 H123 fun y126 H125 =>
  j72 y126 H125)
  (j72 false H68))
  fun j67 =>
  mIf s61
  (j67 (y48 == 0) H63)
  (j67 false H63))
  fun j62 =>
  mIf (y6 == 1)
  (j62 (y16 == 0) H57)
  (j62 false H57)))
  fun j56 =>
  mIf s50
  (j56 true H52)
  (j56 ((y47.len : Int) != 64) H52))
  fun j51 =>
  mIf ((y41.len : Int) != 64)
  (j51 true H46)
  (j51 ((y44.len : Int) != 64) H46)))
  fun j36 =>
  mIf s30
  (j36 true H32)
  (j36 (Option.isNone y28) H32))
  fun j31 =>
  mIf (Option.isNone y21)
  (j31 true H27)
  (j31 (Option.isNone y23) H27)))
  fun j9 =>
  mIf (y3 != 0)
  (j9 true H4)
  (j9 (Option.isNone y2) H4)

set_option maxRecDepth 20000 in
set_option maxHeartbeats 1000000 in
theorem keelsonlaw3_awake_s (H : PH) (Q : Bool → PH → Prop) (h : keelsonlaw3_awake H Q) :
    CallsH Try.prog 17 #[] H (fun v H' => ∃ (r0 : Bool), v = .bool r0 ∧ Q r0 H') := by
  unfold keelsonlaw3_awake at h
  refine callsH_of_go Try.func17 rfl Try.ntmps17 (Nat.le_of_ble_eq_true rfl) ?_
  refine Go.seq ?_
  refine Go.region rfl ?_
  refine GoOps.q (v := .bool false) rfl rfl (by decide) (q_assign rfl) ?_
  refine GoOps.nil ?_
  refine Go.seq ?_
  refine Go.region rfl ?_
  refine call_dst rfl (by decide) body10 (vdisk_New_s _ _ _ h) rfl ?_
  rintro _ H1 ⟨y2, y3, rfl, h⟩
  refine GoOps.q (v := .tuple #[.pointer y2, .int .i64 y3]) rfl rfl (by decide) (q_move rfl) ?_
  refine GoOps.q (v := .pointer y2) rfl rfl (by decide) (q_extract rfl rfl) ?_
  refine GoOps.q (v := .int .i64 y3) rfl rfl (by decide) (q_extract rfl rfl) ?_
  refine GoOps.q (v := .pointer y2) rfl rfl (by decide) (q_assign rfl) ?_
  refine GoOps.q (v := .int .i64 y3) rfl rfl (by decide) (q_assign rfl) ?_
  refine GoOps.nil ?_
  refine Go.seq ?_
  refine Go.region rfl ?_
  refine call_dst rfl (by decide) body10 (vdisk_New_s _ _ _ h) rfl ?_
  rintro _ H4 ⟨y5, y6, rfl, h⟩
  refine GoOps.q (v := .tuple #[.pointer y5, .int .i64 y6]) rfl rfl (by decide) (q_move rfl) ?_
  refine GoOps.q (v := .pointer y5) rfl rfl (by decide) (q_extract rfl rfl) ?_
  refine GoOps.q (v := .int .i64 y6) rfl rfl (by decide) (q_extract rfl rfl) ?_
  refine GoOps.q (v := .pointer y5) rfl rfl (by decide) (q_assign rfl) ?_
  refine GoOps.q (v := .int .i64 y6) rfl rfl (by decide) (q_assign rfl) ?_
  refine GoOps.nil ?_
  refine Go.seq ?_
  refine Go.seq ?_
  refine Go.region rfl ?_
  refine GoOps.q (v := .int .i64 y3) rfl rfl (by decide) (q_move rfl) ?_
  refine GoOps.q (v := .bool (y3 != 0)) rfl rfl (by decide) (q_neq rfl rfl) ?_
  refine GoOps.q (v := .bool (y3 != 0)) rfl rfl (by decide) (q_move rfl) ?_
  refine join_ops 3 (fun ρ (s8 : Bool) => ρ 1 = .pointer y2 ∧ ρ 4 = .int .i64 y6 ∧ ρ 29 = .bool s8) h ?_ ?_ <;> clear h
  · intro s8 H10 ρ h hE
    obtain ⟨e11_1, e11_4, e11_29⟩ := hE
    refine GoOps.nil ?_
    rcases bor s8 with hc12 | hc12
    · have h := h.1 hc12
      refine Go.condT (btT e11_29 hc12) ?_
      refine Go.seq ?_
      refine Go.region rfl ?_
      refine GoOps.q (v := .bool false) rfl rfl (by decide) (q_assign rfl) ?_
      refine GoOps.nil ?_
      exact Go.ret ⟨.inl rfl, _, _, DOk.nil, (resOk1 Try.results17 rfl), ⟨_, rfl, h⟩⟩
    · have h := h.2 hc12
      refine Go.condF (btF e11_29 hc12) ?_
      refine Go.skip ?_
      refine Go.seq ?_
      refine Go.region rfl ?_
      refine GoOps.q (v := .pointer y2) rfl rfl (by decide) (q_move e11_1) ?_
      refine call_dst rfl (by decide) body12 (keelsonalike_Fill_s _ _ _ h) rfl ?_
      rintro _ H13 ⟨y14, rfl, h⟩
      refine call_dst rfl (by decide) body11 (vdisk_Disk_Write_s _ _ _ _ _ h) rfl ?_
      rintro _ H15 ⟨y16, rfl, h⟩
      refine GoOps.q (v := .int .i64 y16) rfl rfl (by decide) (q_assign rfl) ?_
      refine GoOps.nil ?_
      refine Go.seq ?_
      refine Go.region rfl ?_
      refine GoOps.q (v := .pointer y2) rfl rfl (by decide) (q_move e11_1) ?_
      refine op_dst rfl rfl (by decide) (do_bs (ps := [(0, .int .i64 1)]) (zs := [.int .i64 0]) (cs := [.int .i64 1]) slice37 zero3 rfl rfl (by decide) (by decide) rfl rfl fun r17 H18 hb19 => ?_) 
      have h := h r17 H18 hb19
      refine call_dst rfl (by decide) body16 (vdisk_Disk_Crash_s _ _ _ _ h) rfl ?_
      rintro _ H20 ⟨y21, rfl, h⟩
      refine GoOps.q (v := .pointer y21) rfl rfl (by decide) (q_assign rfl) ?_
      refine GoOps.nil ?_
      refine Go.seq ?_
      refine Go.region rfl ?_
      refine GoOps.q (v := .pointer y2) rfl rfl (by decide) (q_move e11_1) ?_
      refine call_dst rfl (by decide) body16 (vdisk_Disk_Crash_s _ _ _ _ h) rfl ?_
      rintro _ H22 ⟨y23, rfl, h⟩
      refine GoOps.q (v := .pointer y23) rfl rfl (by decide) (q_assign rfl) ?_
      refine GoOps.nil ?_
      refine Go.seq ?_
      refine Go.region rfl ?_
      refine GoOps.q (v := .pointer y2) rfl rfl (by decide) (q_move e11_1) ?_
      refine op_dst rfl rfl (by decide) (do_bs (ps := [(0, .int .i64 5)]) (zs := [.int .i64 0]) (cs := [.int .i64 5]) slice37 zero3 rfl rfl (by decide) (by decide) rfl rfl fun r24 H25 hb26 => ?_) 
      have h := h r24 H25 hb26
      refine call_dst rfl (by decide) body16 (vdisk_Disk_Crash_s _ _ _ _ h) rfl ?_
      rintro _ H27 ⟨y28, rfl, h⟩
      refine GoOps.q (v := .pointer y28) rfl rfl (by decide) (q_assign rfl) ?_
      refine GoOps.nil ?_
      refine Go.seq ?_
      refine Go.seq ?_
      refine Go.region rfl ?_
      refine GoOps.q (v := .pointer y21) rfl rfl (by decide) (q_move rfl) ?_
      refine GoOps.q (v := .bool (Option.isNone y21)) rfl rfl (by decide) (q_eqlPn Try.underlying23 rfl rfl) ?_
      refine GoOps.q (v := .bool (Option.isNone y21)) rfl rfl (by decide) (q_move rfl) ?_
      refine join_ops 3 (fun ρ (s30 : Bool) => ρ 1 = .pointer y2 ∧ ρ 4 = .int .i64 y6 ∧ ρ 5 = .int .i64 y16 ∧ ρ 6 = .pointer y21 ∧ ρ 7 = .pointer y23 ∧ ρ 8 = .pointer y28 ∧ ρ 46 = .bool s30) h ?_ ?_ <;> clear h
      · intro s30 H32 ρ h hE
        obtain ⟨e33_1, e33_4, e33_5, e33_6, e33_7, e33_8, e33_46⟩ := hE
        refine GoOps.q (v := .bool s30) rfl rfl (by decide) (q_move e33_46) ?_
        refine join_ops 3 (fun ρ (s35 : Bool) => ρ 1 = .pointer y2 ∧ ρ 4 = .int .i64 y6 ∧ ρ 5 = .int .i64 y16 ∧ ρ 6 = .pointer y21 ∧ ρ 7 = .pointer y23 ∧ ρ 8 = .pointer y28 ∧ ρ 50 = .bool s35) h ?_ ?_ <;> clear h
        · intro s35 H37 ρ h hE
          obtain ⟨e38_1, e38_4, e38_5, e38_6, e38_7, e38_8, e38_50⟩ := hE
          refine GoOps.nil ?_
          rcases bor s35 with hc39 | hc39
          · have h := h.1 hc39
            refine Go.condT (btT e38_50 hc39) ?_
            refine Go.seq ?_
            refine Go.region rfl ?_
            refine GoOps.q (v := .bool false) rfl rfl (by decide) (q_assign rfl) ?_
            refine GoOps.nil ?_
            exact Go.ret ⟨.inl rfl, _, _, DOk.nil, (resOk1 Try.results17 rfl), ⟨_, rfl, h⟩⟩
          · have h := h.2 hc39
            refine Go.condF (btF e38_50 hc39) ?_
            refine Go.skip ?_
            refine Go.seq ?_
            refine Go.region rfl ?_
            refine GoOps.q (v := .pointer y21) rfl rfl (by decide) (q_move e38_6) ?_
            refine call_dst rfl (by decide) body14 (vdisk_Disk_Read_s _ _ _ _ h) rfl ?_
            rintro _ H40 ⟨y41, y42, rfl, h⟩
            refine GoOps.q (v := .tuple #[Sl.v y41, .int .i64 y42]) rfl rfl (by decide) (q_move rfl) ?_
            refine GoOps.q (v := Sl.v y41) rfl rfl (by decide) (q_extract rfl rfl) ?_
            refine GoOps.q (v := .int .i64 y42) rfl rfl (by decide) (q_extract rfl rfl) ?_
            refine GoOps.q (v := Sl.v y41) rfl rfl (by decide) (q_assign rfl) ?_
            refine GoOps.q (v := .int .i64 y42) rfl rfl (by decide) (q_assign rfl) ?_
            refine GoOps.nil ?_
            refine Go.seq ?_
            refine Go.region rfl ?_
            refine GoOps.q (v := .pointer y23) rfl rfl (by decide) (q_move e38_7) ?_
            refine call_dst rfl (by decide) body14 (vdisk_Disk_Read_s _ _ _ _ h) rfl ?_
            rintro _ H43 ⟨y44, y45, rfl, h⟩
            refine GoOps.q (v := .tuple #[Sl.v y44, .int .i64 y45]) rfl rfl (by decide) (q_move rfl) ?_
            refine GoOps.q (v := Sl.v y44) rfl rfl (by decide) (q_extract rfl rfl) ?_
            refine GoOps.q (v := .int .i64 y45) rfl rfl (by decide) (q_extract rfl rfl) ?_
            refine GoOps.q (v := Sl.v y44) rfl rfl (by decide) (q_assign rfl) ?_
            refine GoOps.q (v := .int .i64 y45) rfl rfl (by decide) (q_assign rfl) ?_
            refine GoOps.nil ?_
            refine Go.seq ?_
            refine Go.region rfl ?_
            refine GoOps.q (v := .pointer y28) rfl rfl (by decide) (q_move e38_8) ?_
            refine call_dst rfl (by decide) body14 (vdisk_Disk_Read_s _ _ _ _ h) rfl ?_
            rintro _ H46 ⟨y47, y48, rfl, h⟩
            refine GoOps.q (v := .tuple #[Sl.v y47, .int .i64 y48]) rfl rfl (by decide) (q_move rfl) ?_
            refine GoOps.q (v := Sl.v y47) rfl rfl (by decide) (q_extract rfl rfl) ?_
            refine GoOps.q (v := .int .i64 y48) rfl rfl (by decide) (q_extract rfl rfl) ?_
            refine GoOps.q (v := Sl.v y47) rfl rfl (by decide) (q_assign rfl) ?_
            refine GoOps.q (v := .int .i64 y48) rfl rfl (by decide) (q_assign rfl) ?_
            refine GoOps.nil ?_
            refine Go.seq ?_
            refine Go.seq ?_
            refine Go.region rfl ?_
            refine GoOps.q (v := Sl.v y41) rfl rfl (by decide) (q_move rfl) ?_
            refine GoOps.q (v := .int .i64 (y41.len : Int)) rfl rfl (by decide) (q_len Try.underlying28 rfl (ls1 rfl)) ?_
            refine GoOps.q (v := .bool ((y41.len : Int) != 64)) rfl rfl (by decide) (q_neq rfl rfl) ?_
            refine GoOps.q (v := .bool ((y41.len : Int) != 64)) rfl rfl (by decide) (q_move rfl) ?_
            refine join_ops 4 (fun ρ (s50 : Bool) => ρ 1 = .pointer y2 ∧ ρ 4 = .int .i64 y6 ∧ ρ 5 = .int .i64 y16 ∧ ρ 9 = Sl.v y41 ∧ ρ 11 = Sl.v y44 ∧ ρ 13 = Sl.v y47 ∧ ρ 14 = .int .i64 y48 ∧ ρ 73 = .bool s50) h ?_ ?_ <;> clear h
            · intro s50 H52 ρ h hE
              obtain ⟨e53_1, e53_4, e53_5, e53_9, e53_11, e53_13, e53_14, e53_73⟩ := hE
              refine GoOps.q (v := .bool s50) rfl rfl (by decide) (q_move e53_73) ?_
              refine join_ops 4 (fun ρ (s55 : Bool) => ρ 1 = .pointer y2 ∧ ρ 4 = .int .i64 y6 ∧ ρ 5 = .int .i64 y16 ∧ ρ 9 = Sl.v y41 ∧ ρ 11 = Sl.v y44 ∧ ρ 13 = Sl.v y47 ∧ ρ 14 = .int .i64 y48 ∧ ρ 78 = .bool s55) h ?_ ?_ <;> clear h
              · intro s55 H57 ρ h hE
                obtain ⟨e58_1, e58_4, e58_5, e58_9, e58_11, e58_13, e58_14, e58_78⟩ := hE
                refine GoOps.nil ?_
                rcases bor s55 with hc59 | hc59
                · have h := h.1 hc59
                  refine Go.condT (btT e58_78 hc59) ?_
                  refine Go.seq ?_
                  refine Go.region rfl ?_
                  refine GoOps.q (v := .bool false) rfl rfl (by decide) (q_assign rfl) ?_
                  refine GoOps.nil ?_
                  exact Go.ret ⟨.inl rfl, _, _, DOk.nil, (resOk1 Try.results17 rfl), ⟨_, rfl, h⟩⟩
                · have h := h.2 hc59
                  refine Go.condF (btF e58_78 hc59) ?_
                  refine Go.skip ?_
                  refine Go.seq ?_
                  refine Go.region rfl ?_
                  refine GoOps.q (v := .pointer none) rfl rfl (by decide) (q_assign rfl) ?_
                  refine GoOps.nil ?_
                  refine Go.seq ?_
                  refine Go.region rfl ?_
                  refine GoOps.q (v := .int .i64 y6) rfl rfl (by decide) (q_move e58_4) ?_
                  refine GoOps.q (v := .bool (y6 == 1)) rfl rfl (by decide) (q_eql rfl rfl) ?_
                  refine GoOps.q (v := .bool (y6 == 1)) rfl rfl (by decide) (q_move rfl) ?_
                  refine join_ops 3 (fun ρ (s61 : Bool) => ρ 1 = .pointer y2 ∧ ρ 9 = Sl.v y41 ∧ ρ 11 = Sl.v y44 ∧ ρ 13 = Sl.v y47 ∧ ρ 14 = .int .i64 y48 ∧ ρ 15 = .pointer none ∧ ρ 84 = .bool s61) h ?_ ?_ <;> clear h
                  · intro s61 H63 ρ h hE
                    obtain ⟨e64_1, e64_9, e64_11, e64_13, e64_14, e64_15, e64_84⟩ := hE
                    refine GoOps.q (v := .bool s61) rfl rfl (by decide) (q_move e64_84) ?_
                    refine join_ops 3 (fun ρ (s66 : Bool) => ρ 1 = .pointer y2 ∧ ρ 9 = Sl.v y41 ∧ ρ 11 = Sl.v y44 ∧ ρ 13 = Sl.v y47 ∧ ρ 15 = .pointer none ∧ ρ 88 = .bool s66) h ?_ ?_ <;> clear h
                    · intro s66 H68 ρ h hE
                      obtain ⟨e69_1, e69_9, e69_11, e69_13, e69_15, e69_88⟩ := hE
                      refine GoOps.q (v := .bool s66) rfl rfl (by decide) (q_move e69_88) ?_
                      refine join_ops 4 (fun ρ (s71 : Bool) => ρ 1 = .pointer y2 ∧ ρ 11 = Sl.v y44 ∧ ρ 13 = Sl.v y47 ∧ ρ 15 = .pointer none ∧ ρ 93 = .bool s71) h ?_ ?_ <;> clear h
                      · intro s71 H73 ρ h hE
                        obtain ⟨e74_1, e74_11, e74_13, e74_15, e74_93⟩ := hE
                        refine GoOps.q (v := .bool s71) rfl rfl (by decide) (q_move e74_93) ?_
                        refine join_ops 5 (fun ρ (s76 : Bool) => ρ 1 = .pointer y2 ∧ ρ 13 = Sl.v y47 ∧ ρ 15 = .pointer none ∧ ρ 99 = .bool s76) h ?_ ?_ <;> clear h
                        · intro s76 H78 ρ h hE
                          obtain ⟨e79_1, e79_13, e79_15, e79_99⟩ := hE
                          refine GoOps.q (v := .bool s76) rfl rfl (by decide) (q_move e79_99) ?_
                          refine join_ops 5 (fun ρ (s81 : Bool) => ρ 1 = .pointer y2 ∧ ρ 13 = Sl.v y47 ∧ ρ 15 = .pointer none ∧ ρ 105 = .bool s81) h ?_ ?_ <;> clear h
                          · intro s81 H83 ρ h hE
                            obtain ⟨e84_1, e84_13, e84_15, e84_105⟩ := hE
                            refine GoOps.q (v := .bool s81) rfl rfl (by decide) (q_move e84_105) ?_
                            refine join_ops 5 (fun ρ (s86 : Bool) => ρ 1 = .pointer y2 ∧ ρ 15 = .pointer none ∧ ρ 111 = .bool s86) h ?_ ?_ <;> clear h
                            · intro s86 H88 ρ h hE
                              obtain ⟨e89_1, e89_15, e89_111⟩ := hE
                              refine GoOps.q (v := .bool s86) rfl rfl (by decide) (q_move e89_111) ?_
                              refine join_ops 4 (fun ρ (s91 : Bool) => ρ 15 = .pointer none ∧ ρ 116 = .bool s91) h ?_ ?_ <;> clear h
                              · intro s91 H93 ρ h hE
                                obtain ⟨e94_15, e94_116⟩ := hE
                                refine GoOps.q (v := .bool s91) rfl rfl (by decide) (q_move e94_116) ?_
                                refine join_ops 3 (fun ρ (s96 : Bool) => ρ 15 = .pointer none ∧ ρ 120 = .bool s96) h ?_ ?_ <;> clear h
                                · intro s96 H98 ρ h hE
                                  obtain ⟨e99_15, e99_120⟩ := hE
                                  refine GoOps.q (v := .bool s96) rfl rfl (by decide) (q_move e99_120) ?_
                                  refine join_ops 4 (fun ρ (s101 : Bool) => ρ 125 = .bool s101) h ?_ ?_ <;> clear h
                                  · intro s101 H103 ρ h hE
                                    have e104_125 := hE
                                    refine GoOps.q (v := .bool s101) rfl rfl (by decide) (q_assign e104_125) ?_
                                    refine GoOps.nil ?_
                                    exact Go.ret ⟨.inl rfl, _, _, DOk.nil, (resOk1 Try.results17 rfl), ⟨_, rfl, h⟩⟩
                                  · intro j102 hj102 h
                                    rcases bor s96 with hc100 | hc100
                                    · have h := h.1 hc100
                                      refine GoOps.q (v := .pointer none) (want_yes rfl rfl rfl hc100) rfl (by decide) (q_move e99_15) ?_
                                      refine call_dst (want_yes rfl rfl rfl hc100) (by decide) body16 (vdisk_Disk_Crash_s _ _ _ _ h) rfl ?_
                                      rintro _ H105 ⟨y106, rfl, h⟩
                                      refine GoOps.q (v := .bool (Option.isNone y106)) (want_yes rfl rfl rfl hc100) rfl (by decide) (q_eqlPn Try.underlying23 rfl rfl) ?_
                                      refine GoOps.q (v := .bool (Option.isNone y106)) rfl rfl (by decide) (q_pickT (btT rfl hc100) rfl) ?_
                                      exact hj102 (Option.isNone y106) _ _ h (by exact rfl)
                                    · have h := h.2 hc100
                                      refine no_dst (want_no rfl rfl rfl hc100) rfl (by decide) ?_
                                      refine no_dst (want_no rfl rfl rfl hc100) rfl (by decide) ?_
                                      refine no_dst (want_no rfl rfl rfl hc100) rfl (by decide) ?_
                                      refine GoOps.q (v := .bool false) rfl rfl (by decide) (q_pickF (btF rfl hc100) rfl) ?_
                                      exact hj102 false _ _ h (by exact rfl)
                                · intro j97 hj97 h
                                  rcases bor s91 with hc95 | hc95
                                  · have h := h.1 hc95
                                    refine GoOps.q (v := .pointer none) (want_yes rfl rfl rfl hc95) rfl (by decide) (q_move e94_15) ?_
                                    refine call_dst (want_yes rfl rfl rfl hc95) (by decide) body21 (vdisk_Disk_Off_s _ _ _ h) rfl ?_
                                    rintro _ H107 ⟨y108, rfl, h⟩
                                    refine GoOps.q (v := .bool y108) rfl rfl (by decide) (q_pickT (btT rfl hc95) rfl) ?_
                                    exact hj97 y108 _ _ h (by exact ⟨e94_15, rfl⟩)
                                  · have h := h.2 hc95
                                    refine no_dst (want_no rfl rfl rfl hc95) rfl (by decide) ?_
                                    refine no_dst (want_no rfl rfl rfl hc95) rfl (by decide) ?_
                                    refine GoOps.q (v := .bool false) rfl rfl (by decide) (q_pickF (btF rfl hc95) rfl) ?_
                                    exact hj97 false _ _ h (by exact ⟨e94_15, rfl⟩)
                              · intro j92 hj92 h
                                rcases bor s86 with hc90 | hc90
                                · have h := h.1 hc90
                                  refine GoOps.q (v := .pointer y2) (want_yes rfl rfl rfl hc90) rfl (by decide) (q_move e89_1) ?_
                                  refine call_dst (want_yes rfl rfl rfl hc90) (by decide) body19 (vdisk_Disk_Held_s _ _ _ h) rfl ?_
                                  rintro _ H109 ⟨y110, rfl, h⟩
                                  refine GoOps.q (v := .bool (y110 == 1)) (want_yes rfl rfl rfl hc90) rfl (by decide) (q_eql rfl rfl) ?_
                                  refine GoOps.q (v := .bool (y110 == 1)) rfl rfl (by decide) (q_pickT (btT rfl hc90) rfl) ?_
                                  exact hj92 (y110 == 1) _ _ h (by exact ⟨e89_15, rfl⟩)
                                · have h := h.2 hc90
                                  refine no_dst (want_no rfl rfl rfl hc90) rfl (by decide) ?_
                                  refine no_dst (want_no rfl rfl rfl hc90) rfl (by decide) ?_
                                  refine no_dst (want_no rfl rfl rfl hc90) rfl (by decide) ?_
                                  refine GoOps.q (v := .bool false) rfl rfl (by decide) (q_pickF (btF rfl hc90) rfl) ?_
                                  exact hj92 false _ _ h (by exact ⟨e89_15, rfl⟩)
                            · intro j87 hj87 h
                              rcases bor s81 with hc85 | hc85
                              · have h := h.1 hc85
                                refine GoOps.q (v := Sl.v y47) (want_yes rfl rfl rfl hc85) rfl (by decide) (q_move e84_13) ?_
                                obtain ⟨a111, ha112, h⟩ := h
                                refine GoOps.q (v := .pointer (some a111)) (want_yes rfl rfl rfl hc85) rfl (by decide) (q_idx slice28 ha112 rfl rfl) ?_
                                obtain ⟨x113, hx114, h⟩ := h
                                refine GoOps.q (v := .int .u8 x113) (want_yes rfl rfl rfl hc85) rfl (by decide) (q_load scalar5 rfl hx114) ?_
                                refine GoOps.q (v := .bool (x113 == 0)) (want_yes rfl rfl rfl hc85) rfl (by decide) (q_eql rfl rfl) ?_
                                refine GoOps.q (v := .bool (x113 == 0)) rfl rfl (by decide) (q_pickT (btT rfl hc85) rfl) ?_
                                exact hj87 (x113 == 0) _ _ h (by exact ⟨e84_1, e84_15, rfl⟩)
                              · have h := h.2 hc85
                                refine no_dst (want_no rfl rfl rfl hc85) rfl (by decide) ?_
                                refine no_dst (want_no rfl rfl rfl hc85) rfl (by decide) ?_
                                refine no_dst (want_no rfl rfl rfl hc85) rfl (by decide) ?_
                                refine no_dst (want_no rfl rfl rfl hc85) rfl (by decide) ?_
                                refine GoOps.q (v := .bool false) rfl rfl (by decide) (q_pickF (btF rfl hc85) rfl) ?_
                                exact hj87 false _ _ h (by exact ⟨e84_1, e84_15, rfl⟩)
                          · intro j82 hj82 h
                            rcases bor s76 with hc80 | hc80
                            · have h := h.1 hc80
                              refine GoOps.q (v := Sl.v y47) (want_yes rfl rfl rfl hc80) rfl (by decide) (q_move e79_13) ?_
                              obtain ⟨a115, ha116, h⟩ := h
                              refine GoOps.q (v := .pointer (some a115)) (want_yes rfl rfl rfl hc80) rfl (by decide) (q_idx slice28 ha116 rfl rfl) ?_
                              obtain ⟨x117, hx118, h⟩ := h
                              refine GoOps.q (v := .int .u8 x117) (want_yes rfl rfl rfl hc80) rfl (by decide) (q_load scalar5 rfl hx118) ?_
                              refine GoOps.q (v := .bool (x117 == 1)) (want_yes rfl rfl rfl hc80) rfl (by decide) (q_eql rfl rfl) ?_
                              refine GoOps.q (v := .bool (x117 == 1)) rfl rfl (by decide) (q_pickT (btT rfl hc80) rfl) ?_
                              exact hj82 (x117 == 1) _ _ h (by exact ⟨e79_1, e79_13, e79_15, rfl⟩)
                            · have h := h.2 hc80
                              refine no_dst (want_no rfl rfl rfl hc80) rfl (by decide) ?_
                              refine no_dst (want_no rfl rfl rfl hc80) rfl (by decide) ?_
                              refine no_dst (want_no rfl rfl rfl hc80) rfl (by decide) ?_
                              refine no_dst (want_no rfl rfl rfl hc80) rfl (by decide) ?_
                              refine GoOps.q (v := .bool false) rfl rfl (by decide) (q_pickF (btF rfl hc80) rfl) ?_
                              exact hj82 false _ _ h (by exact ⟨e79_1, e79_13, e79_15, rfl⟩)
                        · intro j77 hj77 h
                          rcases bor s71 with hc75 | hc75
                          · have h := h.1 hc75
                            refine GoOps.q (v := Sl.v y44) (want_yes rfl rfl rfl hc75) rfl (by decide) (q_move e74_11) ?_
                            obtain ⟨a119, ha120, h⟩ := h
                            refine GoOps.q (v := .pointer (some a119)) (want_yes rfl rfl rfl hc75) rfl (by decide) (q_idx slice28 ha120 rfl rfl) ?_
                            obtain ⟨x121, hx122, h⟩ := h
                            refine GoOps.q (v := .int .u8 x121) (want_yes rfl rfl rfl hc75) rfl (by decide) (q_load scalar5 rfl hx122) ?_
                            refine GoOps.q (v := .bool (x121 == 0)) (want_yes rfl rfl rfl hc75) rfl (by decide) (q_eql rfl rfl) ?_
                            refine GoOps.q (v := .bool (x121 == 0)) rfl rfl (by decide) (q_pickT (btT rfl hc75) rfl) ?_
                            exact hj77 (x121 == 0) _ _ h (by exact ⟨e74_1, e74_13, e74_15, rfl⟩)
                          · have h := h.2 hc75
                            refine no_dst (want_no rfl rfl rfl hc75) rfl (by decide) ?_
                            refine no_dst (want_no rfl rfl rfl hc75) rfl (by decide) ?_
                            refine no_dst (want_no rfl rfl rfl hc75) rfl (by decide) ?_
                            refine no_dst (want_no rfl rfl rfl hc75) rfl (by decide) ?_
                            refine GoOps.q (v := .bool false) rfl rfl (by decide) (q_pickF (btF rfl hc75) rfl) ?_
                            exact hj77 false _ _ h (by exact ⟨e74_1, e74_13, e74_15, rfl⟩)
                      · intro j72 hj72 h
                        rcases bor s66 with hc70 | hc70
                        · have h := h.1 hc70
                          refine GoOps.q (v := Sl.v y41) (want_yes rfl rfl rfl hc70) rfl (by decide) (q_move e69_9) ?_
                          refine call_dst (want_yes rfl rfl rfl hc70) (by decide) body12 (keelsonalike_Fill_s _ _ _ h) rfl ?_
                          rintro _ H123 ⟨y124, rfl, h⟩
                          refine call_dst (want_yes rfl rfl rfl hc70) (by decide) body15 (keelsonalike_Bytes_s _ _ _ _ h) rfl ?_
                          rintro _ H125 ⟨y126, rfl, h⟩
                          refine GoOps.q (v := .bool y126) rfl rfl (by decide) (q_pickT (btT rfl hc70) rfl) ?_
                          exact hj72 y126 _ _ h (by exact ⟨e69_1, e69_11, e69_13, e69_15, rfl⟩)
                        · have h := h.2 hc70
                          refine no_dst (want_no rfl rfl rfl hc70) rfl (by decide) ?_
                          refine no_dst (want_no rfl rfl rfl hc70) rfl (by decide) ?_
                          refine no_dst (want_no rfl rfl rfl hc70) rfl (by decide) ?_
                          refine GoOps.q (v := .bool false) rfl rfl (by decide) (q_pickF (btF rfl hc70) rfl) ?_
                          exact hj72 false _ _ h (by exact ⟨e69_1, e69_11, e69_13, e69_15, rfl⟩)
                    · intro j67 hj67 h
                      rcases bor s61 with hc65 | hc65
                      · have h := h.1 hc65
                        refine GoOps.q (v := .int .i64 y48) (want_yes rfl rfl rfl hc65) rfl (by decide) (q_move e64_14) ?_
                        refine GoOps.q (v := .bool (y48 == 0)) (want_yes rfl rfl rfl hc65) rfl (by decide) (q_eql rfl rfl) ?_
                        refine GoOps.q (v := .bool (y48 == 0)) rfl rfl (by decide) (q_pickT (btT rfl hc65) rfl) ?_
                        exact hj67 (y48 == 0) _ _ h (by exact ⟨e64_1, e64_9, e64_11, e64_13, e64_15, rfl⟩)
                      · have h := h.2 hc65
                        refine no_dst (want_no rfl rfl rfl hc65) rfl (by decide) ?_
                        refine no_dst (want_no rfl rfl rfl hc65) rfl (by decide) ?_
                        refine GoOps.q (v := .bool false) rfl rfl (by decide) (q_pickF (btF rfl hc65) rfl) ?_
                        exact hj67 false _ _ h (by exact ⟨e64_1, e64_9, e64_11, e64_13, e64_15, rfl⟩)
                  · intro j62 hj62 h
                    rcases bor (y6 == 1) with hc60 | hc60
                    · have h := h.1 hc60
                      refine GoOps.q (v := .int .i64 y16) (want_yes rfl rfl rfl hc60) rfl (by decide) (q_move e58_5) ?_
                      refine GoOps.q (v := .bool (y16 == 0)) (want_yes rfl rfl rfl hc60) rfl (by decide) (q_eql rfl rfl) ?_
                      refine GoOps.q (v := .bool (y16 == 0)) rfl rfl (by decide) (q_pickT (btT rfl hc60) rfl) ?_
                      exact hj62 (y16 == 0) _ _ h (by exact ⟨e58_1, e58_9, e58_11, e58_13, e58_14, rfl, rfl⟩)
                    · have h := h.2 hc60
                      refine no_dst (want_no rfl rfl rfl hc60) rfl (by decide) ?_
                      refine no_dst (want_no rfl rfl rfl hc60) rfl (by decide) ?_
                      refine GoOps.q (v := .bool false) rfl rfl (by decide) (q_pickF (btF rfl hc60) rfl) ?_
                      exact hj62 false _ _ h (by exact ⟨e58_1, e58_9, e58_11, e58_13, e58_14, rfl, rfl⟩)
              · intro j56 hj56 h
                rcases bor s50 with hc54 | hc54
                · have h := h.1 hc54
                  refine no_dst (want_no rfl rfl rfl hc54) rfl (by decide) ?_
                  refine no_dst (want_no rfl rfl rfl hc54) rfl (by decide) ?_
                  refine no_dst (want_no rfl rfl rfl hc54) rfl (by decide) ?_
                  refine GoOps.q (v := .bool true) rfl rfl (by decide) (q_pickT (btT rfl hc54) rfl) ?_
                  exact hj56 true _ _ h (by exact ⟨e53_1, e53_4, e53_5, e53_9, e53_11, e53_13, e53_14, rfl⟩)
                · have h := h.2 hc54
                  refine GoOps.q (v := Sl.v y47) (want_yes rfl rfl rfl hc54) rfl (by decide) (q_move e53_13) ?_
                  refine GoOps.q (v := .int .i64 (y47.len : Int)) (want_yes rfl rfl rfl hc54) rfl (by decide) (q_len Try.underlying28 rfl (ls1 rfl)) ?_
                  refine GoOps.q (v := .bool ((y47.len : Int) != 64)) (want_yes rfl rfl rfl hc54) rfl (by decide) (q_neq rfl rfl) ?_
                  refine GoOps.q (v := .bool ((y47.len : Int) != 64)) rfl rfl (by decide) (q_pickF (btF rfl hc54) rfl) ?_
                  exact hj56 ((y47.len : Int) != 64) _ _ h (by exact ⟨e53_1, e53_4, e53_5, e53_9, e53_11, e53_13, e53_14, rfl⟩)
            · intro j51 hj51 h
              rcases bor ((y41.len : Int) != 64) with hc49 | hc49
              · have h := h.1 hc49
                refine no_dst (want_no rfl rfl rfl hc49) rfl (by decide) ?_
                refine no_dst (want_no rfl rfl rfl hc49) rfl (by decide) ?_
                refine no_dst (want_no rfl rfl rfl hc49) rfl (by decide) ?_
                refine GoOps.q (v := .bool true) rfl rfl (by decide) (q_pickT (btT rfl hc49) rfl) ?_
                exact hj51 true _ _ h (by exact ⟨e38_1, e38_4, e38_5, rfl, rfl, rfl, rfl, rfl⟩)
              · have h := h.2 hc49
                refine GoOps.q (v := Sl.v y44) (want_yes rfl rfl rfl hc49) rfl (by decide) (q_move rfl) ?_
                refine GoOps.q (v := .int .i64 (y44.len : Int)) (want_yes rfl rfl rfl hc49) rfl (by decide) (q_len Try.underlying28 rfl (ls1 rfl)) ?_
                refine GoOps.q (v := .bool ((y44.len : Int) != 64)) (want_yes rfl rfl rfl hc49) rfl (by decide) (q_neq rfl rfl) ?_
                refine GoOps.q (v := .bool ((y44.len : Int) != 64)) rfl rfl (by decide) (q_pickF (btF rfl hc49) rfl) ?_
                exact hj51 ((y44.len : Int) != 64) _ _ h (by exact ⟨e38_1, e38_4, e38_5, rfl, rfl, rfl, rfl, rfl⟩)
        · intro j36 hj36 h
          rcases bor s30 with hc34 | hc34
          · have h := h.1 hc34
            refine no_dst (want_no rfl rfl rfl hc34) rfl (by decide) ?_
            refine no_dst (want_no rfl rfl rfl hc34) rfl (by decide) ?_
            refine GoOps.q (v := .bool true) rfl rfl (by decide) (q_pickT (btT rfl hc34) rfl) ?_
            exact hj36 true _ _ h (by exact ⟨e33_1, e33_4, e33_5, e33_6, e33_7, e33_8, rfl⟩)
          · have h := h.2 hc34
            refine GoOps.q (v := .pointer y28) (want_yes rfl rfl rfl hc34) rfl (by decide) (q_move e33_8) ?_
            refine GoOps.q (v := .bool (Option.isNone y28)) (want_yes rfl rfl rfl hc34) rfl (by decide) (q_eqlPn Try.underlying23 rfl rfl) ?_
            refine GoOps.q (v := .bool (Option.isNone y28)) rfl rfl (by decide) (q_pickF (btF rfl hc34) rfl) ?_
            exact hj36 (Option.isNone y28) _ _ h (by exact ⟨e33_1, e33_4, e33_5, e33_6, e33_7, e33_8, rfl⟩)
      · intro j31 hj31 h
        rcases bor (Option.isNone y21) with hc29 | hc29
        · have h := h.1 hc29
          refine no_dst (want_no rfl rfl rfl hc29) rfl (by decide) ?_
          refine no_dst (want_no rfl rfl rfl hc29) rfl (by decide) ?_
          refine GoOps.q (v := .bool true) rfl rfl (by decide) (q_pickT (btT rfl hc29) rfl) ?_
          exact hj31 true _ _ h (by exact ⟨e11_1, e11_4, rfl, rfl, rfl, rfl, rfl⟩)
        · have h := h.2 hc29
          refine GoOps.q (v := .pointer y23) (want_yes rfl rfl rfl hc29) rfl (by decide) (q_move rfl) ?_
          refine GoOps.q (v := .bool (Option.isNone y23)) (want_yes rfl rfl rfl hc29) rfl (by decide) (q_eqlPn Try.underlying23 rfl rfl) ?_
          refine GoOps.q (v := .bool (Option.isNone y23)) rfl rfl (by decide) (q_pickF (btF rfl hc29) rfl) ?_
          exact hj31 (Option.isNone y23) _ _ h (by exact ⟨e11_1, e11_4, rfl, rfl, rfl, rfl, rfl⟩)
  · intro j9 hj9 h
    rcases bor (y3 != 0) with hc7 | hc7
    · have h := h.1 hc7
      refine no_dst (want_no rfl rfl rfl hc7) rfl (by decide) ?_
      refine no_dst (want_no rfl rfl rfl hc7) rfl (by decide) ?_
      refine GoOps.q (v := .bool true) rfl rfl (by decide) (q_pickT (btT rfl hc7) rfl) ?_
      exact hj9 true _ _ h (by exact ⟨rfl, rfl, rfl⟩)
    · have h := h.2 hc7
      refine GoOps.q (v := .pointer y2) (want_yes rfl rfl rfl hc7) rfl (by decide) (q_move rfl) ?_
      refine GoOps.q (v := .bool (Option.isNone y2)) (want_yes rfl rfl rfl hc7) rfl (by decide) (q_eqlPn Try.underlying23 rfl rfl) ?_
      refine GoOps.q (v := .bool (Option.isNone y2)) rfl rfl (by decide) (q_pickF (btF rfl hc7) rfl) ?_
      exact hj9 (Option.isNone y2) _ _ h (by exact ⟨rfl, rfl, rfl⟩)

/-- keelson.keelsonlaw3.DiskFaults -/
def keelsonlaw3_DiskFaults (p0 : Int) (p1 : Int) (p2 : Int) (H : PH) (Q : Bool → PH → Prop) : Prop :=
  keelsonalike_Round p0 6 H fun y2 H1 =>
  keelsonalike_Round p1 6 H1 fun y4 H3 =>
  vdisk_New 6 H3 fun y6 y7 H5 =>
  mJoin (fun (s9 : Bool) (H11 : PH) =>
  mJoin (fun (s14 : Bool) (H16 : PH) =>
  mJoin (fun (s19 : Bool) (H21 : PH) =>
  mIf s19
  (Q false H21)
  (vdisk_Disk_Read y6 y4 H21 fun y25 y26 H24 =>
  vdisk_Disk_Read y6 y2 H24 fun y28 y29 H27 =>
  mJoin (fun (s31 : Bool) (H33 : PH) =>
  mJoin (fun (s36 : Bool) (H38 : PH) =>
  mJoin (fun (s41 : Bool) (H43 : PH) =>
  mIf s41
  (Q false H43)
  (mNewS H43 (row [.int .i64 1] 3) 1 fun r46 H47 =>
  vdisk_Disk_Crash y6 r46 H47 fun y50 H49 =>
  mIf (Option.isNone y50)
  (Q false H49)
  (vdisk_Disk_Read y50 y4 H49 fun y53 y54 H52 =>
  mJoin (fun (s56 : Bool) (H58 : PH) =>
  mJoin (fun (s61 : Bool) (H63 : PH) =>
  mIf s61
  (Q false H63)
  (vdisk_Disk_Read y50 y4 H63 fun y67 y68 H66 =>
  mJoin (fun (s70 : Bool) (H72 : PH) =>
  mJoin (fun (s75 : Bool) (H77 : PH) =>
  Q s75 H77)
  fun j76 =>
  mIf s70
  (keelsonlaw3_awake H72 fun y80 H79 =>
  j76 y80 H79)
  (j76 false H72))
  fun j71 =>
  mIf (y68 == 0)
  (keelsonalike_Fill (IntKind.wrap .i64 (p2 + 1)) H66 fun y82 H81 =>
  keelsonalike_Bytes y67 y82 H81 fun y84 H83 =>
  j71 y84 H83)
  (j71 false H66)))
  fun j62 =>
  mIf s56
  (j62 true H58)
  (vdisk_Disk_Fault y50 y4 false H58 fun y86 H85 =>
  j62 (y86 != 0) H85))
  fun j57 =>
  mIf (y54 != 4)
  (j57 true H52)
  (keelsonalike_Fill (IntKind.wrap .i64 (p2 + 1)) H52 fun y88 H87 =>
  vdisk_Disk_Write y50 y4 y88 H87 fun y90 H89 =>
  j57 (y90 != 0) H89))))
  fun j42 =>
  mIf s36
  (j42 true H38)
  (mJoin (fun (s92 : Bool) (H94 : PH) =>
  j42 s92 H94)
  fun j93 =>
  mIf (y29 == 0)
  (keelsonalike_Fill p2 H38 fun y97 H96 =>
  keelsonalike_Bytes y28 y97 H96 fun y99 H98 =>
  j93 (!y99) H98)
  (j93 false H38)))
  fun j37 =>
  mIf s31
  (j37 true H33)
  (j37 ((y29 == 0) != (y2 != y4)) H33))
  fun j32 =>
  mIf (y26 != 4)
  (j32 true H27)
  (j32 ((y25.len : Int) != 0) H27)))
  fun j20 =>
  mIf s14
  (j20 true H16)
  (vdisk_Disk_Fault y6 y4 true H16 fun y101 H100 =>
  j20 (y101 != 0) H100))
  fun j15 =>
  mIf s9
  (j15 true H11)
  (keelsonalike_Fill p2 H11 fun y103 H102 =>
  vdisk_Disk_Write y6 y2 y103 H102 fun y105 H104 =>
  j15 (y105 != 0) H104))
  fun j10 =>
  mIf (y7 != 0)
  (j10 true H5)
  (j10 (Option.isNone y6) H5)

set_option maxRecDepth 20000 in
set_option maxHeartbeats 1000000 in
theorem keelsonlaw3_DiskFaults_s (p0 : Int) (p1 : Int) (p2 : Int) (H : PH) (Q : Bool → PH → Prop) (h : keelsonlaw3_DiskFaults p0 p1 p2 H Q) :
    CallsH Try.prog 3 #[.int .i64 p0, .int .i64 p1, .int .i64 p2] H (fun v H' => ∃ (r0 : Bool), v = .bool r0 ∧ Q r0 H') := by
  unfold keelsonlaw3_DiskFaults at h
  refine callsH_of_go Try.func3 rfl Try.ntmps3 (Nat.le_of_ble_eq_true rfl) ?_
  refine Go.seq ?_
  refine Go.region rfl ?_
  refine GoOps.q (v := .bool false) rfl rfl (by decide) (q_assign rfl) ?_
  refine GoOps.nil ?_
  refine Go.seq ?_
  refine Go.region rfl ?_
  refine GoOps.q (v := .int .i64 p0) rfl rfl (by decide) (q_move rfl) ?_
  refine call_dst rfl (by decide) body9 (keelsonalike_Round_s _ _ _ _ h) rfl ?_
  rintro _ H1 ⟨y2, rfl, h⟩
  refine GoOps.q (v := .int .i64 p1) rfl rfl (by decide) (q_move rfl) ?_
  refine call_dst rfl (by decide) body9 (keelsonalike_Round_s _ _ _ _ h) rfl ?_
  rintro _ H3 ⟨y4, rfl, h⟩
  refine GoOps.q (v := .int .i64 y2) rfl rfl (by decide) (q_assign rfl) ?_
  refine GoOps.q (v := .int .i64 y4) rfl rfl (by decide) (q_assign rfl) ?_
  refine GoOps.nil ?_
  refine Go.seq ?_
  refine Go.region rfl ?_
  refine call_dst rfl (by decide) body10 (vdisk_New_s _ _ _ h) rfl ?_
  rintro _ H5 ⟨y6, y7, rfl, h⟩
  refine GoOps.q (v := .tuple #[.pointer y6, .int .i64 y7]) rfl rfl (by decide) (q_move rfl) ?_
  refine GoOps.q (v := .pointer y6) rfl rfl (by decide) (q_extract rfl rfl) ?_
  refine GoOps.q (v := .int .i64 y7) rfl rfl (by decide) (q_extract rfl rfl) ?_
  refine GoOps.q (v := .pointer y6) rfl rfl (by decide) (q_assign rfl) ?_
  refine GoOps.q (v := .int .i64 y7) rfl rfl (by decide) (q_assign rfl) ?_
  refine GoOps.nil ?_
  refine Go.seq ?_
  refine Go.seq ?_
  refine Go.region rfl ?_
  refine GoOps.q (v := .int .i64 y7) rfl rfl (by decide) (q_move rfl) ?_
  refine GoOps.q (v := .bool (y7 != 0)) rfl rfl (by decide) (q_neq rfl rfl) ?_
  refine GoOps.q (v := .bool (y7 != 0)) rfl rfl (by decide) (q_move rfl) ?_
  refine join_ops 3 (fun ρ (s9 : Bool) => ρ 2 = .int .i64 p2 ∧ ρ 7 = .int .i64 y2 ∧ ρ 8 = .int .i64 y4 ∧ ρ 9 = .pointer y6 ∧ ρ 33 = .bool s9) h ?_ ?_ <;> clear h
  · intro s9 H11 ρ h hE
    obtain ⟨e12_2, e12_7, e12_8, e12_9, e12_33⟩ := hE
    refine GoOps.q (v := .bool s9) rfl rfl (by decide) (q_move e12_33) ?_
    refine join_ops 7 (fun ρ (s14 : Bool) => ρ 2 = .int .i64 p2 ∧ ρ 7 = .int .i64 y2 ∧ ρ 8 = .int .i64 y4 ∧ ρ 9 = .pointer y6 ∧ ρ 41 = .bool s14) h ?_ ?_ <;> clear h
    · intro s14 H16 ρ h hE
      obtain ⟨e17_2, e17_7, e17_8, e17_9, e17_41⟩ := hE
      refine GoOps.q (v := .bool s14) rfl rfl (by decide) (q_move e17_41) ?_
      refine join_ops 5 (fun ρ (s19 : Bool) => ρ 2 = .int .i64 p2 ∧ ρ 7 = .int .i64 y2 ∧ ρ 8 = .int .i64 y4 ∧ ρ 9 = .pointer y6 ∧ ρ 47 = .bool s19) h ?_ ?_ <;> clear h
      · intro s19 H21 ρ h hE
        obtain ⟨e22_2, e22_7, e22_8, e22_9, e22_47⟩ := hE
        refine GoOps.nil ?_
        rcases bor s19 with hc23 | hc23
        · have h := h.1 hc23
          refine Go.condT (btT e22_47 hc23) ?_
          refine Go.seq ?_
          refine Go.region rfl ?_
          refine GoOps.q (v := .bool false) rfl rfl (by decide) (q_assign rfl) ?_
          refine GoOps.nil ?_
          exact Go.ret ⟨.inl rfl, _, _, DOk.nil, (resOk1 Try.results3 rfl), ⟨_, rfl, h⟩⟩
        · have h := h.2 hc23
          refine Go.condF (btF e22_47 hc23) ?_
          refine Go.skip ?_
          refine Go.seq ?_
          refine Go.region rfl ?_
          refine GoOps.q (v := .pointer y6) rfl rfl (by decide) (q_move e22_9) ?_
          refine GoOps.q (v := .int .i64 y4) rfl rfl (by decide) (q_move e22_8) ?_
          refine call_dst rfl (by decide) body14 (vdisk_Disk_Read_s _ _ _ _ h) rfl ?_
          rintro _ H24 ⟨y25, y26, rfl, h⟩
          refine GoOps.q (v := .tuple #[Sl.v y25, .int .i64 y26]) rfl rfl (by decide) (q_move rfl) ?_
          refine GoOps.q (v := Sl.v y25) rfl rfl (by decide) (q_extract rfl rfl) ?_
          refine GoOps.q (v := .int .i64 y26) rfl rfl (by decide) (q_extract rfl rfl) ?_
          refine GoOps.q (v := Sl.v y25) rfl rfl (by decide) (q_assign rfl) ?_
          refine GoOps.q (v := .int .i64 y26) rfl rfl (by decide) (q_assign rfl) ?_
          refine GoOps.nil ?_
          refine Go.seq ?_
          refine Go.region rfl ?_
          refine GoOps.q (v := .pointer y6) rfl rfl (by decide) (q_move e22_9) ?_
          refine GoOps.q (v := .int .i64 y2) rfl rfl (by decide) (q_move e22_7) ?_
          refine call_dst rfl (by decide) body14 (vdisk_Disk_Read_s _ _ _ _ h) rfl ?_
          rintro _ H27 ⟨y28, y29, rfl, h⟩
          refine GoOps.q (v := .tuple #[Sl.v y28, .int .i64 y29]) rfl rfl (by decide) (q_move rfl) ?_
          refine GoOps.q (v := Sl.v y28) rfl rfl (by decide) (q_extract rfl rfl) ?_
          refine GoOps.q (v := .int .i64 y29) rfl rfl (by decide) (q_extract rfl rfl) ?_
          refine GoOps.q (v := Sl.v y28) rfl rfl (by decide) (q_assign rfl) ?_
          refine GoOps.q (v := .int .i64 y29) rfl rfl (by decide) (q_assign rfl) ?_
          refine GoOps.nil ?_
          refine Go.seq ?_
          refine Go.seq ?_
          refine Go.region rfl ?_
          refine GoOps.q (v := .int .i64 y26) rfl rfl (by decide) (q_move rfl) ?_
          refine GoOps.q (v := .bool (y26 != 4)) rfl rfl (by decide) (q_neq rfl rfl) ?_
          refine GoOps.q (v := .bool (y26 != 4)) rfl rfl (by decide) (q_move rfl) ?_
          refine join_ops 4 (fun ρ (s31 : Bool) => ρ 2 = .int .i64 p2 ∧ ρ 7 = .int .i64 y2 ∧ ρ 8 = .int .i64 y4 ∧ ρ 9 = .pointer y6 ∧ ρ 13 = Sl.v y28 ∧ ρ 14 = .int .i64 y29 ∧ ρ 66 = .bool s31) h ?_ ?_ <;> clear h
          · intro s31 H33 ρ h hE
            obtain ⟨e34_2, e34_7, e34_8, e34_9, e34_13, e34_14, e34_66⟩ := hE
            refine GoOps.q (v := .bool s31) rfl rfl (by decide) (q_move e34_66) ?_
            refine join_ops 7 (fun ρ (s36 : Bool) => ρ 2 = .int .i64 p2 ∧ ρ 8 = .int .i64 y4 ∧ ρ 9 = .pointer y6 ∧ ρ 13 = Sl.v y28 ∧ ρ 14 = .int .i64 y29 ∧ ρ 74 = .bool s36) h ?_ ?_ <;> clear h
            · intro s36 H38 ρ h hE
              obtain ⟨e39_2, e39_8, e39_9, e39_13, e39_14, e39_74⟩ := hE
              refine GoOps.q (v := .bool s36) rfl rfl (by decide) (q_move e39_74) ?_
              refine join_ops 10 (fun ρ (s41 : Bool) => ρ 2 = .int .i64 p2 ∧ ρ 8 = .int .i64 y4 ∧ ρ 9 = .pointer y6 ∧ ρ 85 = .bool s41) h ?_ ?_ <;> clear h
              · intro s41 H43 ρ h hE
                obtain ⟨e44_2, e44_8, e44_9, e44_85⟩ := hE
                refine GoOps.nil ?_
                rcases bor s41 with hc45 | hc45
                · have h := h.1 hc45
                  refine Go.condT (btT e44_85 hc45) ?_
                  refine Go.seq ?_
                  refine Go.region rfl ?_
                  refine GoOps.q (v := .bool false) rfl rfl (by decide) (q_assign rfl) ?_
                  refine GoOps.nil ?_
                  exact Go.ret ⟨.inl rfl, _, _, DOk.nil, (resOk1 Try.results3 rfl), ⟨_, rfl, h⟩⟩
                · have h := h.2 hc45
                  refine Go.condF (btF e44_85 hc45) ?_
                  refine Go.skip ?_
                  refine Go.seq ?_
                  refine Go.region rfl ?_
                  refine GoOps.q (v := .pointer y6) rfl rfl (by decide) (q_move e44_9) ?_
                  refine op_dst rfl rfl (by decide) (do_bs (ps := [(0, .int .i64 1)]) (zs := [.int .i64 0]) (cs := [.int .i64 1]) slice37 zero3 rfl rfl (by decide) (by decide) rfl rfl fun r46 H47 hb48 => ?_) 
                  have h := h r46 H47 hb48
                  refine call_dst rfl (by decide) body16 (vdisk_Disk_Crash_s _ _ _ _ h) rfl ?_
                  rintro _ H49 ⟨y50, rfl, h⟩
                  refine GoOps.q (v := .pointer y50) rfl rfl (by decide) (q_assign rfl) ?_
                  refine GoOps.nil ?_
                  refine Go.seq ?_
                  refine Go.seq ?_
                  refine Go.region rfl ?_
                  refine GoOps.q (v := .pointer y50) rfl rfl (by decide) (q_move rfl) ?_
                  refine GoOps.q (v := .bool (Option.isNone y50)) rfl rfl (by decide) (q_eqlPn Try.underlying23 rfl rfl) ?_
                  refine GoOps.nil ?_
                  rcases bor (Option.isNone y50) with hc51 | hc51
                  · have h := h.1 hc51
                    refine Go.condT (btT rfl hc51) ?_
                    refine Go.seq ?_
                    refine Go.region rfl ?_
                    refine GoOps.q (v := .bool false) rfl rfl (by decide) (q_assign rfl) ?_
                    refine GoOps.nil ?_
                    exact Go.ret ⟨.inl rfl, _, _, DOk.nil, (resOk1 Try.results3 rfl), ⟨_, rfl, h⟩⟩
                  · have h := h.2 hc51
                    refine Go.condF (btF rfl hc51) ?_
                    refine Go.skip ?_
                    refine Go.seq ?_
                    refine Go.region rfl ?_
                    refine GoOps.q (v := .pointer y50) rfl rfl (by decide) (q_move rfl) ?_
                    refine GoOps.q (v := .int .i64 y4) rfl rfl (by decide) (q_move e44_8) ?_
                    refine call_dst rfl (by decide) body14 (vdisk_Disk_Read_s _ _ _ _ h) rfl ?_
                    rintro _ H52 ⟨y53, y54, rfl, h⟩
                    refine GoOps.q (v := .tuple #[Sl.v y53, .int .i64 y54]) rfl rfl (by decide) (q_move rfl) ?_
                    refine GoOps.q (v := Sl.v y53) rfl rfl (by decide) (q_extract rfl rfl) ?_
                    refine GoOps.q (v := .int .i64 y54) rfl rfl (by decide) (q_extract rfl rfl) ?_
                    refine GoOps.q (v := Sl.v y53) rfl rfl (by decide) (q_assign rfl) ?_
                    refine GoOps.q (v := .int .i64 y54) rfl rfl (by decide) (q_assign rfl) ?_
                    refine GoOps.nil ?_
                    refine Go.seq ?_
                    refine Go.seq ?_
                    refine Go.region rfl ?_
                    refine GoOps.q (v := .int .i64 y54) rfl rfl (by decide) (q_move rfl) ?_
                    refine GoOps.q (v := .bool (y54 != 4)) rfl rfl (by decide) (q_neq rfl rfl) ?_
                    refine GoOps.q (v := .bool (y54 != 4)) rfl rfl (by decide) (q_move rfl) ?_
                    refine join_ops 8 (fun ρ (s56 : Bool) => ρ 2 = .int .i64 p2 ∧ ρ 8 = .int .i64 y4 ∧ ρ 15 = .pointer y50 ∧ ρ 107 = .bool s56) h ?_ ?_ <;> clear h
                    · intro s56 H58 ρ h hE
                      obtain ⟨e59_2, e59_8, e59_15, e59_107⟩ := hE
                      refine GoOps.q (v := .bool s56) rfl rfl (by decide) (q_move e59_107) ?_
                      refine join_ops 5 (fun ρ (s61 : Bool) => ρ 2 = .int .i64 p2 ∧ ρ 8 = .int .i64 y4 ∧ ρ 15 = .pointer y50 ∧ ρ 113 = .bool s61) h ?_ ?_ <;> clear h
                      · intro s61 H63 ρ h hE
                        obtain ⟨e64_2, e64_8, e64_15, e64_113⟩ := hE
                        refine GoOps.nil ?_
                        rcases bor s61 with hc65 | hc65
                        · have h := h.1 hc65
                          refine Go.condT (btT e64_113 hc65) ?_
                          refine Go.seq ?_
                          refine Go.region rfl ?_
                          refine GoOps.q (v := .bool false) rfl rfl (by decide) (q_assign rfl) ?_
                          refine GoOps.nil ?_
                          exact Go.ret ⟨.inl rfl, _, _, DOk.nil, (resOk1 Try.results3 rfl), ⟨_, rfl, h⟩⟩
                        · have h := h.2 hc65
                          refine Go.condF (btF e64_113 hc65) ?_
                          refine Go.skip ?_
                          refine Go.seq ?_
                          refine Go.region rfl ?_
                          refine GoOps.q (v := .pointer y50) rfl rfl (by decide) (q_move e64_15) ?_
                          refine GoOps.q (v := .int .i64 y4) rfl rfl (by decide) (q_move e64_8) ?_
                          refine call_dst rfl (by decide) body14 (vdisk_Disk_Read_s _ _ _ _ h) rfl ?_
                          rintro _ H66 ⟨y67, y68, rfl, h⟩
                          refine GoOps.q (v := .tuple #[Sl.v y67, .int .i64 y68]) rfl rfl (by decide) (q_move rfl) ?_
                          refine GoOps.q (v := Sl.v y67) rfl rfl (by decide) (q_extract rfl rfl) ?_
                          refine GoOps.q (v := .int .i64 y68) rfl rfl (by decide) (q_extract rfl rfl) ?_
                          refine GoOps.q (v := Sl.v y67) rfl rfl (by decide) (q_assign rfl) ?_
                          refine GoOps.q (v := .int .i64 y68) rfl rfl (by decide) (q_assign rfl) ?_
                          refine GoOps.nil ?_
                          refine Go.seq ?_
                          refine Go.region rfl ?_
                          refine GoOps.q (v := .int .i64 y68) rfl rfl (by decide) (q_move rfl) ?_
                          refine GoOps.q (v := .bool (y68 == 0)) rfl rfl (by decide) (q_eql rfl rfl) ?_
                          refine GoOps.q (v := .bool (y68 == 0)) rfl rfl (by decide) (q_move rfl) ?_
                          refine join_ops 6 (fun ρ (s70 : Bool) => ρ 128 = .bool s70) h ?_ ?_ <;> clear h
                          · intro s70 H72 ρ h hE
                            have e73_128 := hE
                            refine GoOps.q (v := .bool s70) rfl rfl (by decide) (q_move e73_128) ?_
                            refine join_ops 2 (fun ρ (s75 : Bool) => ρ 131 = .bool s75) h ?_ ?_ <;> clear h
                            · intro s75 H77 ρ h hE
                              have e78_131 := hE
                              refine GoOps.q (v := .bool s75) rfl rfl (by decide) (q_assign e78_131) ?_
                              refine GoOps.nil ?_
                              exact Go.ret ⟨.inl rfl, _, _, DOk.nil, (resOk1 Try.results3 rfl), ⟨_, rfl, h⟩⟩
                            · intro j76 hj76 h
                              rcases bor s70 with hc74 | hc74
                              · have h := h.1 hc74
                                refine call_dst (want_yes rfl rfl rfl hc74) (by decide) body17 (keelsonlaw3_awake_s _ _ h) rfl ?_
                                rintro _ H79 ⟨y80, rfl, h⟩
                                refine GoOps.q (v := .bool y80) rfl rfl (by decide) (q_pickT (btT rfl hc74) rfl) ?_
                                exact hj76 y80 _ _ h (by exact rfl)
                              · have h := h.2 hc74
                                refine no_dst (want_no rfl rfl rfl hc74) rfl (by decide) ?_
                                refine GoOps.q (v := .bool false) rfl rfl (by decide) (q_pickF (btF rfl hc74) rfl) ?_
                                exact hj76 false _ _ h (by exact rfl)
                          · intro j71 hj71 h
                            rcases bor (y68 == 0) with hc69 | hc69
                            · have h := h.1 hc69
                              refine GoOps.q (v := Sl.v y67) (want_yes rfl rfl rfl hc69) rfl (by decide) (q_move rfl) ?_
                              refine GoOps.q (v := .int .i64 p2) (want_yes rfl rfl rfl hc69) rfl (by decide) (q_move e64_2) ?_
                              refine GoOps.q (v := .int .i64 (IntKind.wrap .i64 (p2 + 1))) (want_yes rfl rfl rfl hc69) rfl (by decide) (q_add rfl rfl) ?_
                              refine call_dst (want_yes rfl rfl rfl hc69) (by decide) body12 (keelsonalike_Fill_s _ _ _ h) rfl ?_
                              rintro _ H81 ⟨y82, rfl, h⟩
                              refine call_dst (want_yes rfl rfl rfl hc69) (by decide) body15 (keelsonalike_Bytes_s _ _ _ _ h) rfl ?_
                              rintro _ H83 ⟨y84, rfl, h⟩
                              refine GoOps.q (v := .bool y84) rfl rfl (by decide) (q_pickT (btT rfl hc69) rfl) ?_
                              exact hj71 y84 _ _ h (by exact rfl)
                            · have h := h.2 hc69
                              refine no_dst (want_no rfl rfl rfl hc69) rfl (by decide) ?_
                              refine no_dst (want_no rfl rfl rfl hc69) rfl (by decide) ?_
                              refine no_dst (want_no rfl rfl rfl hc69) rfl (by decide) ?_
                              refine no_dst (want_no rfl rfl rfl hc69) rfl (by decide) ?_
                              refine no_dst (want_no rfl rfl rfl hc69) rfl (by decide) ?_
                              refine GoOps.q (v := .bool false) rfl rfl (by decide) (q_pickF (btF rfl hc69) rfl) ?_
                              exact hj71 false _ _ h (by exact rfl)
                      · intro j62 hj62 h
                        rcases bor s56 with hc60 | hc60
                        · have h := h.1 hc60
                          refine no_dst (want_no rfl rfl rfl hc60) rfl (by decide) ?_
                          refine no_dst (want_no rfl rfl rfl hc60) rfl (by decide) ?_
                          refine no_dst (want_no rfl rfl rfl hc60) rfl (by decide) ?_
                          refine no_dst (want_no rfl rfl rfl hc60) rfl (by decide) ?_
                          refine GoOps.q (v := .bool true) rfl rfl (by decide) (q_pickT (btT rfl hc60) rfl) ?_
                          exact hj62 true _ _ h (by exact ⟨e59_2, e59_8, e59_15, rfl⟩)
                        · have h := h.2 hc60
                          refine GoOps.q (v := .pointer y50) (want_yes rfl rfl rfl hc60) rfl (by decide) (q_move e59_15) ?_
                          refine GoOps.q (v := .int .i64 y4) (want_yes rfl rfl rfl hc60) rfl (by decide) (q_move e59_8) ?_
                          refine call_dst (want_yes rfl rfl rfl hc60) (by decide) body13 (vdisk_Disk_Fault_s _ _ _ _ _ h) rfl ?_
                          rintro _ H85 ⟨y86, rfl, h⟩
                          refine GoOps.q (v := .bool (y86 != 0)) (want_yes rfl rfl rfl hc60) rfl (by decide) (q_neq rfl rfl) ?_
                          refine GoOps.q (v := .bool (y86 != 0)) rfl rfl (by decide) (q_pickF (btF rfl hc60) rfl) ?_
                          exact hj62 (y86 != 0) _ _ h (by exact ⟨e59_2, e59_8, e59_15, rfl⟩)
                    · intro j57 hj57 h
                      rcases bor (y54 != 4) with hc55 | hc55
                      · have h := h.1 hc55
                        refine no_dst (want_no rfl rfl rfl hc55) rfl (by decide) ?_
                        refine no_dst (want_no rfl rfl rfl hc55) rfl (by decide) ?_
                        refine no_dst (want_no rfl rfl rfl hc55) rfl (by decide) ?_
                        refine no_dst (want_no rfl rfl rfl hc55) rfl (by decide) ?_
                        refine no_dst (want_no rfl rfl rfl hc55) rfl (by decide) ?_
                        refine no_dst (want_no rfl rfl rfl hc55) rfl (by decide) ?_
                        refine no_dst (want_no rfl rfl rfl hc55) rfl (by decide) ?_
                        refine GoOps.q (v := .bool true) rfl rfl (by decide) (q_pickT (btT rfl hc55) rfl) ?_
                        exact hj57 true _ _ h (by exact ⟨e44_2, e44_8, rfl, rfl⟩)
                      · have h := h.2 hc55
                        refine GoOps.q (v := .pointer y50) (want_yes rfl rfl rfl hc55) rfl (by decide) (q_move rfl) ?_
                        refine GoOps.q (v := .int .i64 y4) (want_yes rfl rfl rfl hc55) rfl (by decide) (q_move e44_8) ?_
                        refine GoOps.q (v := .int .i64 p2) (want_yes rfl rfl rfl hc55) rfl (by decide) (q_move e44_2) ?_
                        refine GoOps.q (v := .int .i64 (IntKind.wrap .i64 (p2 + 1))) (want_yes rfl rfl rfl hc55) rfl (by decide) (q_add rfl rfl) ?_
                        refine call_dst (want_yes rfl rfl rfl hc55) (by decide) body12 (keelsonalike_Fill_s _ _ _ h) rfl ?_
                        rintro _ H87 ⟨y88, rfl, h⟩
                        refine call_dst (want_yes rfl rfl rfl hc55) (by decide) body11 (vdisk_Disk_Write_s _ _ _ _ _ h) rfl ?_
                        rintro _ H89 ⟨y90, rfl, h⟩
                        refine GoOps.q (v := .bool (y90 != 0)) (want_yes rfl rfl rfl hc55) rfl (by decide) (q_neq rfl rfl) ?_
                        refine GoOps.q (v := .bool (y90 != 0)) rfl rfl (by decide) (q_pickF (btF rfl hc55) rfl) ?_
                        exact hj57 (y90 != 0) _ _ h (by exact ⟨e44_2, e44_8, rfl, rfl⟩)
              · intro j42 hj42 h
                rcases bor s36 with hc40 | hc40
                · have h := h.1 hc40
                  refine no_dst (want_no rfl rfl rfl hc40) rfl (by decide) ?_
                  refine no_dst (want_no rfl rfl rfl hc40) rfl (by decide) ?_
                  refine no_dst (want_no rfl rfl rfl hc40) rfl (by decide) ?_
                  refine no_dst (want_undef rfl rfl rfl) rfl (by decide) ?_
                  refine no_dst (want_undef rfl rfl rfl) rfl (by decide) ?_
                  refine no_dst (want_undef rfl rfl rfl) rfl (by decide) ?_
                  refine no_dst (want_undef rfl rfl rfl) rfl (by decide) ?_
                  refine no_dst (want_undef rfl rfl rfl) rfl (by decide) ?_
                  refine no_dst (want_no rfl rfl rfl hc40) rfl (by decide) ?_
                  refine GoOps.q (v := .bool true) rfl rfl (by decide) (q_pickT (btT rfl hc40) rfl) ?_
                  exact hj42 true _ _ h (by exact ⟨e39_2, e39_8, e39_9, rfl⟩)
                · have h := h.2 hc40
                  refine GoOps.q (v := .int .i64 y29) (want_yes rfl rfl rfl hc40) rfl (by decide) (q_move e39_14) ?_
                  refine GoOps.q (v := .bool (y29 == 0)) (want_yes rfl rfl rfl hc40) rfl (by decide) (q_eql rfl rfl) ?_
                  refine GoOps.q (v := .bool (y29 == 0)) (want_yes rfl rfl rfl hc40) rfl (by decide) (q_move rfl) ?_
                  refine join_ops 6 (fun ρ (s92 : Bool) => ρ 2 = .int .i64 p2 ∧ ρ 8 = .int .i64 y4 ∧ ρ 9 = .pointer y6 ∧ ρ 75 = .bool s36 ∧ ρ 84 = .bool s92) h ?_ ?_ <;> clear h
                  · intro s92 H94 ρ h hE
                    obtain ⟨e95_2, e95_8, e95_9, e95_75, e95_84⟩ := hE
                    refine GoOps.q (v := .bool s92) rfl rfl (by decide) (q_pickF (btF e95_75 hc40) e95_84) ?_
                    exact hj42 s92 _ _ h (by exact ⟨e95_2, e95_8, e95_9, rfl⟩)
                  · intro j93 hj93 h
                    rcases bor (y29 == 0) with hc91 | hc91
                    · have h := h.1 hc91
                      refine GoOps.q (v := Sl.v y28) (want_yes rfl rfl rfl hc91) rfl (by decide) (q_move e39_13) ?_
                      refine GoOps.q (v := .int .i64 p2) (want_yes rfl rfl rfl hc91) rfl (by decide) (q_move e39_2) ?_
                      refine call_dst (want_yes rfl rfl rfl hc91) (by decide) body12 (keelsonalike_Fill_s _ _ _ h) rfl ?_
                      rintro _ H96 ⟨y97, rfl, h⟩
                      refine call_dst (want_yes rfl rfl rfl hc91) (by decide) body15 (keelsonalike_Bytes_s _ _ _ _ h) rfl ?_
                      rintro _ H98 ⟨y99, rfl, h⟩
                      refine GoOps.q (v := .bool (!y99)) (want_yes rfl rfl rfl hc91) rfl (by decide) (q_not rfl) ?_
                      refine GoOps.q (v := .bool (!y99)) (want_yes rfl rfl rfl hc40) rfl (by decide) (q_pickT (btT rfl hc91) rfl) ?_
                      exact hj93 (!y99) _ _ h (by exact ⟨e39_2, e39_8, e39_9, rfl, rfl⟩)
                    · have h := h.2 hc91
                      refine no_dst (want_no rfl rfl rfl hc91) rfl (by decide) ?_
                      refine no_dst (want_no rfl rfl rfl hc91) rfl (by decide) ?_
                      refine no_dst (want_no rfl rfl rfl hc91) rfl (by decide) ?_
                      refine no_dst (want_no rfl rfl rfl hc91) rfl (by decide) ?_
                      refine no_dst (want_no rfl rfl rfl hc91) rfl (by decide) ?_
                      refine GoOps.q (v := .bool false) (want_yes rfl rfl rfl hc40) rfl (by decide) (q_pickF (btF rfl hc91) rfl) ?_
                      exact hj93 false _ _ h (by exact ⟨e39_2, e39_8, e39_9, rfl, rfl⟩)
            · intro j37 hj37 h
              rcases bor s31 with hc35 | hc35
              · have h := h.1 hc35
                refine no_dst (want_no rfl rfl rfl hc35) rfl (by decide) ?_
                refine no_dst (want_no rfl rfl rfl hc35) rfl (by decide) ?_
                refine no_dst (want_no rfl rfl rfl hc35) rfl (by decide) ?_
                refine no_dst (want_no rfl rfl rfl hc35) rfl (by decide) ?_
                refine no_dst (want_no rfl rfl rfl hc35) rfl (by decide) ?_
                refine no_dst (want_no rfl rfl rfl hc35) rfl (by decide) ?_
                refine GoOps.q (v := .bool true) rfl rfl (by decide) (q_pickT (btT rfl hc35) rfl) ?_
                exact hj37 true _ _ h (by exact ⟨e34_2, e34_8, e34_9, e34_13, e34_14, rfl⟩)
              · have h := h.2 hc35
                refine GoOps.q (v := .int .i64 y29) (want_yes rfl rfl rfl hc35) rfl (by decide) (q_move e34_14) ?_
                refine GoOps.q (v := .bool (y29 == 0)) (want_yes rfl rfl rfl hc35) rfl (by decide) (q_eql rfl rfl) ?_
                refine GoOps.q (v := .int .i64 y2) (want_yes rfl rfl rfl hc35) rfl (by decide) (q_move e34_7) ?_
                refine GoOps.q (v := .int .i64 y4) (want_yes rfl rfl rfl hc35) rfl (by decide) (q_move e34_8) ?_
                refine GoOps.q (v := .bool (y2 != y4)) (want_yes rfl rfl rfl hc35) rfl (by decide) (q_neq rfl rfl) ?_
                refine GoOps.q (v := .bool ((y29 == 0) != (y2 != y4))) (want_yes rfl rfl rfl hc35) rfl (by decide) (q_neqB Try.underlying4 rfl rfl) ?_
                refine GoOps.q (v := .bool ((y29 == 0) != (y2 != y4))) rfl rfl (by decide) (q_pickF (btF rfl hc35) rfl) ?_
                exact hj37 ((y29 == 0) != (y2 != y4)) _ _ h (by exact ⟨e34_2, e34_8, e34_9, e34_13, e34_14, rfl⟩)
          · intro j32 hj32 h
            rcases bor (y26 != 4) with hc30 | hc30
            · have h := h.1 hc30
              refine no_dst (want_no rfl rfl rfl hc30) rfl (by decide) ?_
              refine no_dst (want_no rfl rfl rfl hc30) rfl (by decide) ?_
              refine no_dst (want_no rfl rfl rfl hc30) rfl (by decide) ?_
              refine GoOps.q (v := .bool true) rfl rfl (by decide) (q_pickT (btT rfl hc30) rfl) ?_
              exact hj32 true _ _ h (by exact ⟨e22_2, e22_7, e22_8, e22_9, rfl, rfl, rfl⟩)
            · have h := h.2 hc30
              refine GoOps.q (v := Sl.v y25) (want_yes rfl rfl rfl hc30) rfl (by decide) (q_move rfl) ?_
              refine GoOps.q (v := .int .i64 (y25.len : Int)) (want_yes rfl rfl rfl hc30) rfl (by decide) (q_len Try.underlying28 rfl (ls1 rfl)) ?_
              refine GoOps.q (v := .bool ((y25.len : Int) != 0)) (want_yes rfl rfl rfl hc30) rfl (by decide) (q_neq rfl rfl) ?_
              refine GoOps.q (v := .bool ((y25.len : Int) != 0)) rfl rfl (by decide) (q_pickF (btF rfl hc30) rfl) ?_
              exact hj32 ((y25.len : Int) != 0) _ _ h (by exact ⟨e22_2, e22_7, e22_8, e22_9, rfl, rfl, rfl⟩)
      · intro j20 hj20 h
        rcases bor s14 with hc18 | hc18
        · have h := h.1 hc18
          refine no_dst (want_no rfl rfl rfl hc18) rfl (by decide) ?_
          refine no_dst (want_no rfl rfl rfl hc18) rfl (by decide) ?_
          refine no_dst (want_no rfl rfl rfl hc18) rfl (by decide) ?_
          refine no_dst (want_no rfl rfl rfl hc18) rfl (by decide) ?_
          refine GoOps.q (v := .bool true) rfl rfl (by decide) (q_pickT (btT rfl hc18) rfl) ?_
          exact hj20 true _ _ h (by exact ⟨e17_2, e17_7, e17_8, e17_9, rfl⟩)
        · have h := h.2 hc18
          refine GoOps.q (v := .pointer y6) (want_yes rfl rfl rfl hc18) rfl (by decide) (q_move e17_9) ?_
          refine GoOps.q (v := .int .i64 y4) (want_yes rfl rfl rfl hc18) rfl (by decide) (q_move e17_8) ?_
          refine call_dst (want_yes rfl rfl rfl hc18) (by decide) body13 (vdisk_Disk_Fault_s _ _ _ _ _ h) rfl ?_
          rintro _ H100 ⟨y101, rfl, h⟩
          refine GoOps.q (v := .bool (y101 != 0)) (want_yes rfl rfl rfl hc18) rfl (by decide) (q_neq rfl rfl) ?_
          refine GoOps.q (v := .bool (y101 != 0)) rfl rfl (by decide) (q_pickF (btF rfl hc18) rfl) ?_
          exact hj20 (y101 != 0) _ _ h (by exact ⟨e17_2, e17_7, e17_8, e17_9, rfl⟩)
    · intro j15 hj15 h
      rcases bor s9 with hc13 | hc13
      · have h := h.1 hc13
        refine no_dst (want_no rfl rfl rfl hc13) rfl (by decide) ?_
        refine no_dst (want_no rfl rfl rfl hc13) rfl (by decide) ?_
        refine no_dst (want_no rfl rfl rfl hc13) rfl (by decide) ?_
        refine no_dst (want_no rfl rfl rfl hc13) rfl (by decide) ?_
        refine no_dst (want_no rfl rfl rfl hc13) rfl (by decide) ?_
        refine no_dst (want_no rfl rfl rfl hc13) rfl (by decide) ?_
        refine GoOps.q (v := .bool true) rfl rfl (by decide) (q_pickT (btT rfl hc13) rfl) ?_
        exact hj15 true _ _ h (by exact ⟨e12_2, e12_7, e12_8, e12_9, rfl⟩)
      · have h := h.2 hc13
        refine GoOps.q (v := .pointer y6) (want_yes rfl rfl rfl hc13) rfl (by decide) (q_move e12_9) ?_
        refine GoOps.q (v := .int .i64 y2) (want_yes rfl rfl rfl hc13) rfl (by decide) (q_move e12_7) ?_
        refine GoOps.q (v := .int .i64 p2) (want_yes rfl rfl rfl hc13) rfl (by decide) (q_move e12_2) ?_
        refine call_dst (want_yes rfl rfl rfl hc13) (by decide) body12 (keelsonalike_Fill_s _ _ _ h) rfl ?_
        rintro _ H102 ⟨y103, rfl, h⟩
        refine call_dst (want_yes rfl rfl rfl hc13) (by decide) body11 (vdisk_Disk_Write_s _ _ _ _ _ h) rfl ?_
        rintro _ H104 ⟨y105, rfl, h⟩
        refine GoOps.q (v := .bool (y105 != 0)) (want_yes rfl rfl rfl hc13) rfl (by decide) (q_neq rfl rfl) ?_
        refine GoOps.q (v := .bool (y105 != 0)) rfl rfl (by decide) (q_pickF (btF rfl hc13) rfl) ?_
        exact hj15 (y105 != 0) _ _ h (by exact ⟨e12_2, e12_7, e12_8, e12_9, rfl⟩)
  · intro j10 hj10 h
    rcases bor (y7 != 0) with hc8 | hc8
    · have h := h.1 hc8
      refine no_dst (want_no rfl rfl rfl hc8) rfl (by decide) ?_
      refine no_dst (want_no rfl rfl rfl hc8) rfl (by decide) ?_
      refine GoOps.q (v := .bool true) rfl rfl (by decide) (q_pickT (btT rfl hc8) rfl) ?_
      exact hj10 true _ _ h (by exact ⟨rfl, rfl, rfl, rfl, rfl⟩)
    · have h := h.2 hc8
      refine GoOps.q (v := .pointer y6) (want_yes rfl rfl rfl hc8) rfl (by decide) (q_move rfl) ?_
      refine GoOps.q (v := .bool (Option.isNone y6)) (want_yes rfl rfl rfl hc8) rfl (by decide) (q_eqlPn Try.underlying23 rfl rfl) ?_
      refine GoOps.q (v := .bool (Option.isNone y6)) rfl rfl (by decide) (q_pickF (btF rfl hc8) rfl) ?_
      exact hj10 (Option.isNone y6) _ _ h (by exact ⟨rfl, rfl, rfl, rfl, rfl⟩)

/-- (*keelson.vdisk.Disk).Flush -/
def vdisk_Disk_Flush (p0 : Option Addr) (H : PH) (Q : Int → PH → Prop) : Prop :=
  mIf (Option.isNone p0)
  (Q 1 H)
  (vdisk_Disk_act p0 H fun y3 H2 =>
  mIf (y3 != 0)
  (Q y3 H2)
  (mNil p0 fun a5 =>
  mLd Sl.v H2 (a5.add 2) fun x7 =>
  mLoop (fun (s9 : Int) (H12 : PH) (again10 : Int → PH → Prop) =>
  mIf (decide (s9 < (x7.len : Int)))
  (mIdx x7 65 s9 fun a14 =>
  mLdA H12 a14 65 fun x16 =>
  mNew H12 (row [.int .i64 0, .int .u8 0, .int .u8 0, .int .u8 0, .int .u8 0, .int .u8 0, .int .u8 0, .int .u8 0, .int .u8 0, .int .u8 0, .int .u8 0, .int .u8 0, .int .u8 0, .int .u8 0, .int .u8 0, .int .u8 0, .int .u8 0, .int .u8 0, .int .u8 0, .int .u8 0, .int .u8 0, .int .u8 0, .int .u8 0, .int .u8 0, .int .u8 0, .int .u8 0, .int .u8 0, .int .u8 0, .int .u8 0, .int .u8 0, .int .u8 0, .int .u8 0, .int .u8 0, .int .u8 0, .int .u8 0, .int .u8 0, .int .u8 0, .int .u8 0, .int .u8 0, .int .u8 0, .int .u8 0, .int .u8 0, .int .u8 0, .int .u8 0, .int .u8 0, .int .u8 0, .int .u8 0, .int .u8 0, .int .u8 0, .int .u8 0, .int .u8 0, .int .u8 0, .int .u8 0, .int .u8 0, .int .u8 0, .int .u8 0, .int .u8 0, .int .u8 0, .int .u8 0, .int .u8 0, .int .u8 0, .int .u8 0, .int .u8 0, .int .u8 0, .int .u8 0] 74) fun a18 H19 =>
  mStA H19 a18 65 x16 fun H21 =>
  mNil p0 fun a23 =>
  mLd Sl.v H21 (a23.add 0) fun x25 =>
  mLd (.int .i64) H21 (a18.add 0) fun x27 =>
  mLdA H21 (a18.add 1) 64 fun x29 =>
  mIdx x25 64 x27 fun a31 =>
  mStA H21 a31 64 x29 fun H33 =>
  again10 (IntKind.wrap .i64 (s9 + 1)) H33)
  (mNil p0 fun a35 =>
  mSt H12 (a35.add 2) ([Sl.v Sl.nil]) fun H37 =>
  Q 0 H37))
  0 H2))

set_option maxRecDepth 20000 in
set_option maxHeartbeats 1000000 in
theorem vdisk_Disk_Flush_s (p0 : Option Addr) (H : PH) (Q : Int → PH → Prop) (h : vdisk_Disk_Flush p0 H Q) :
    CallsH Try.prog 18 #[.pointer p0] H (fun v H' => ∃ (r0 : Int), v = .int .i64 r0 ∧ Q r0 H') := by
  unfold vdisk_Disk_Flush at h
  refine callsH_of_go Try.func18 rfl Try.ntmps18 (Nat.le_of_ble_eq_true rfl) ?_
  refine Go.seq ?_
  refine Go.region rfl ?_
  refine GoOps.q (v := .int .i64 0) rfl rfl (by decide) (q_assign rfl) ?_
  refine GoOps.nil ?_
  refine Go.seq ?_
  refine Go.seq ?_
  refine Go.region rfl ?_
  refine GoOps.q (v := .pointer p0) rfl rfl (by decide) (q_move rfl) ?_
  refine GoOps.q (v := .bool (Option.isNone p0)) rfl rfl (by decide) (q_eqlPn Try.underlying23 rfl rfl) ?_
  refine GoOps.nil ?_
  rcases bor (Option.isNone p0) with hc1 | hc1
  · have h := h.1 hc1
    refine Go.condT (btT rfl hc1) ?_
    refine Go.seq ?_
    refine Go.region rfl ?_
    refine GoOps.q (v := .int .i64 1) rfl rfl (by decide) (q_assign rfl) ?_
    refine GoOps.nil ?_
    exact Go.ret ⟨.inl rfl, _, _, DOk.nil, (resOk1 Try.results18 rfl), ⟨_, rfl, h⟩⟩
  · have h := h.2 hc1
    refine Go.condF (btF rfl hc1) ?_
    refine Go.skip ?_
    refine Go.seq ?_
    refine Go.seq ?_
    refine Go.region rfl ?_
    refine GoOps.q (v := .pointer p0) rfl rfl (by decide) (q_move rfl) ?_
    refine call_dst rfl (by decide) body34 (vdisk_Disk_act_s _ _ _ h) rfl ?_
    rintro _ H2 ⟨y3, rfl, h⟩
    refine GoOps.q (v := .int .i64 y3) rfl rfl (by decide) (q_assign rfl) ?_
    refine GoOps.nil ?_
    refine Go.seq ?_
    refine Go.region rfl ?_
    refine GoOps.q (v := .int .i64 y3) rfl rfl (by decide) (q_move rfl) ?_
    refine GoOps.q (v := .bool (y3 != 0)) rfl rfl (by decide) (q_neq rfl rfl) ?_
    refine GoOps.nil ?_
    rcases bor (y3 != 0) with hc4 | hc4
    · have h := h.1 hc4
      refine Go.condT (btT rfl hc4) ?_
      refine Go.seq ?_
      refine Go.region rfl ?_
      refine GoOps.q (v := .int .i64 y3) rfl rfl (by decide) (q_move rfl) ?_
      refine GoOps.q (v := .int .i64 y3) rfl rfl (by decide) (q_assign rfl) ?_
      refine GoOps.nil ?_
      exact Go.ret ⟨.inl rfl, _, _, DOk.nil, (resOk1 Try.results18 rfl), ⟨_, rfl, h⟩⟩
    · have h := h.2 hc4
      refine Go.condF (btF rfl hc4) ?_
      refine Go.skip ?_
      refine Go.seq ?_
      refine Go.seq ?_
      refine Go.region rfl ?_
      refine GoOps.q (v := .pointer p0) rfl rfl (by decide) (q_move rfl) ?_
      obtain ⟨a5, ha6, h⟩ := h
      refine GoOps.q (v := .pointer (some a5)) rfl rfl (by decide) (q_nilCheck (ptn rfl ha6)) ?_
      refine GoOps.q (v := .pointer (some (a5.add 2))) rfl rfl (by decide) (q_fieldAddr foff69_2 rfl) ?_
      obtain ⟨x7, hx8, h⟩ := h
      refine GoOps.q (v := Sl.v x7) rfl rfl (by decide) (q_load scalar67 rfl hx8) ?_
      refine GoOps.q (v := .int .i64 (x7.len : Int)) rfl rfl (by decide) (q_len Try.underlying67 rfl (ls1 rfl)) ?_
      refine GoOps.q (v := .int .i64 0) rfl rfl (by decide) (q_move rfl) ?_
      refine GoOps.nil ?_
      refine Go.block ?_
      refine loop_go (fun ρ (s9 : Int) => ρ 0 = .pointer p0 ∧ ρ 16 = Sl.v x7 ∧ ρ 17 = .int .i64 (x7.len : Int) ∧ ρ 18 = .int .i64 s9) h ⟨rfl, rfl, rfl, rfl⟩ ?_
      clear h
      intro ρ s9 H12 again10 hE h hagain10
      obtain ⟨e11_0, e11_16, e11_17, e11_18⟩ := hE
      refine Go.seq ?_
      refine Go.region rfl ?_
      refine GoOps.q (v := .bool (decide (s9 < (x7.len : Int)))) rfl rfl (by decide) (q_lss e11_18 e11_17) ?_
      refine GoOps.nil ?_
      refine Go.seq ?_
      rcases bor (decide (s9 < (x7.len : Int))) with hc13 | hc13
      · have h := h.1 hc13
        refine Go.condT (btT rfl hc13) ?_
        refine Go.skip ?_
        refine Go.seq ?_
        refine Go.block ?_
        refine Go.seq ?_
        refine Go.region rfl ?_
        obtain ⟨a14, ha15, h⟩ := h
        refine GoOps.q (v := .pointer (some a14)) rfl rfl (by decide) (q_idx slice67 ha15 e11_16 e11_18) ?_
        obtain ⟨x16, hx17, h⟩ := h
        refine GoOps.q (v := .agg (x16 : List Value).toArray) rfl rfl (by decide) (q_loadA aggr74 rfl hx17) ?_
        refine op_dst rfl rfl (by decide) (do_new zero74 rfl fun a18 H19 hb20 => ?_) 
        have h := h a18 H19 hb20
        obtain ⟨hq22n, q22b, q22o, q22c, q22e, hq22a, hq22b, hq22l, hq22v, h⟩ := h
        refine op_none rfl rfl (do_store (vs := x16) size74 (pta rfl hq22a) rfl rfl hq22n hq22v hq22b hq22l ?_) 
        refine GoOps.nil ?_
        refine Go.draw mixed ?_
        refine plan_pure (i := 0) (d := 22) (S2 := 1) (v := .pointer p0) rfl (by decide +kernel) rfl (q_move e11_0) ?_
        obtain ⟨a23, ha24, h⟩ := h
        refine plan_pure (i := 1) (d := 23) (S2 := 3) (v := .pointer (some a23)) rfl (by decide +kernel) rfl (q_nilCheck (ptn rfl ha24)) ?_
        refine plan_pure (i := 2) (d := 24) (S2 := 7) (v := .pointer (some (a23.add 0))) rfl (by decide +kernel) rfl (q_fieldAddr foff69_0 rfl) ?_
        obtain ⟨x25, hx26, h⟩ := h
        refine plan_load (i := 3) (d := 25) (S2 := 15) (v := Sl.v x25) rfl (by decide +kernel) rfl (q_load scalar66 rfl hx26) ?_
        refine plan_pure (i := 4) (d := 26) (S2 := 31) (v := .pointer (some (a18.add 0))) rfl (by decide +kernel) rfl (q_fieldAddr foff74_0 rfl) ?_
        obtain ⟨x27, hx28, h⟩ := h
        refine plan_load (i := 5) (d := 27) (S2 := 63) (v := .int .i64 x27) rfl (by decide +kernel) rfl (q_load scalar3 rfl hx28) ?_
        refine plan_pure (i := 6) (d := 28) (S2 := 127) (v := .pointer (some (a18.add 1))) rfl (by decide +kernel) rfl (q_fieldAddr foff74_1 rfl) ?_
        obtain ⟨x29, hx30, h⟩ := h
        refine plan_load (i := 7) (d := 29) (S2 := 255) (v := .agg (x29 : List Value).toArray) rfl (by decide +kernel) rfl (q_loadA aggr72 rfl hx30) ?_
        obtain ⟨a31, ha32, h⟩ := h
        refine plan_pure (i := 8) (d := 30) (S2 := 511) (v := .pointer (some a31)) rfl (by decide +kernel) rfl (q_idx slice66 ha32 rfl rfl) ?_
        refine plan_one (j := 9) (S2 := 1023) (by decide +kernel) rfl (by decide) rfl ?_
        obtain ⟨hq34n, q34b, q34o, q34c, q34e, hq34a, hq34b, hq34l, hq34v, h⟩ := h
        refine do_store (vs := x29) size72 (pta rfl hq34a) rfl rfl hq34n hq34v hq34b hq34l ?_
        refine ⟨_, (.inl ⟨⟨[9], by decide +kernel, rfl⟩, .inl ⟨⟨[9], by decide +kernel, rfl⟩, .inl ⟨⟨[9], by decide +kernel, rfl⟩, rfl⟩⟩⟩), ?_⟩
        refine plan_done (by decide +kernel) ?_
        refine Go.inBlock ?_
        refine Go.region rfl ?_
        refine GoOps.q (v := .int .i64 (IntKind.wrap .i64 (s9 + 1))) rfl rfl (by decide) (q_add e11_18 rfl) ?_
        refine GoOps.q (v := .int .i64 (IntKind.wrap .i64 (s9 + 1))) rfl rfl (by decide) (q_move rfl) ?_
        refine GoOps.nil ?_
        exact hagain10 _ _ _ h ⟨e11_0, e11_16, e11_17, rfl⟩
      · have h := h.2 hc13
        refine Go.condF (btF rfl hc13) ?_
        refine Go.exit rfl ?_
        refine Go.seq ?_
        refine Go.region rfl ?_
        refine GoOps.q (v := .pointer p0) rfl rfl (by decide) (q_move e11_0) ?_
        obtain ⟨a35, ha36, h⟩ := h
        refine GoOps.q (v := .pointer (some a35)) rfl rfl (by decide) (q_nilCheck (ptn rfl ha36)) ?_
        refine GoOps.q (v := .pointer (some (a35.add 2))) rfl rfl (by decide) (q_fieldAddr foff69_2 rfl) ?_
        obtain ⟨q38b, q38o, q38c, q38e, hq38a, hq38b, hq38l, hq38v, h⟩ := h
        refine op_none rfl rfl (do_store (vs := [Sl.v Sl.nil]) size67 (pta rfl hq38a) rfl rfl rfl hq38v hq38b hq38l ?_) 
        refine GoOps.nil ?_
        refine Go.seq ?_
        refine Go.region rfl ?_
        refine GoOps.q (v := .int .i64 0) rfl rfl (by decide) (q_assign rfl) ?_
        refine GoOps.nil ?_
        exact Go.ret ⟨.inl rfl, _, _, DOk.nil, (resOk1 Try.results18 rfl), ⟨_, rfl, h⟩⟩


end Go.Proofs.Ytdoldlinaghfbaa

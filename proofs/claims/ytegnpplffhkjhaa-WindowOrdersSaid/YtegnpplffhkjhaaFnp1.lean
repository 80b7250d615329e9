import Derived.Test.YtegnpplffhkjhaaProg
import Derived.Test.YtegnpplffhkjhaaKxF
import Derived.KernelRfl
import Derived.Test.YtegnpplffhkjhaaKxMp
set_option linter.unusedVariables false
set_option linter.unusedSimpArgs false
namespace Go.Proofs.Ytegnpplffhkjhaa
open Go Go.Kx Go.Proofs
theorem slice56 : SliceOf Try.prog 56 60 2 := ⟨Try.underlying56, by kernel_rfl⟩
theorem bytes60 : BytesOf Try.prog 60 16 := by unfold BytesOf; kernel_rfl
theorem zero60 : ZeroOf Try.prog 60 (.agg ([.int .i64 0, .bool false] : List Value).toArray) := by unfold ZeroOf; kernel_rfl
theorem places58 : PlacesOf Try.prog 58 [(0, 1), (1, 1)] := ⟨_, Try.underlying58, rfl, by kernel_rfl⟩
theorem zero58 : ZeroOf Try.prog 58 (.agg ([.slice none 0 0, .int .i64 0] : List Value).toArray) := by unfold ZeroOf; kernel_rfl
theorem foff58_0 : FieldOff Try.prog 58 0 0 := ⟨_, _, 1, Try.underlying58, rfl, rfl, by kernel_rfl, by decide⟩
theorem scalar56 : Scalar Try.prog 56 := ⟨_, Try.underlying56, trivial⟩
theorem mixed : Try.prog.follows .mixedOrders = true := by kernel_rfl
theorem foff58_1 : FieldOff Try.prog 58 1 1 := ⟨_, _, 1, Try.underlying58, rfl, rfl, by kernel_rfl, by decide⟩
theorem scalar3 : Scalar Try.prog 3 := ⟨_, Try.underlying3, trivial⟩
theorem foff60_1 : FieldOff Try.prog 60 1 1 := ⟨_, _, 1, Try.underlying60, rfl, rfl, by kernel_rfl, by decide⟩
theorem scalar4 : Scalar Try.prog 4 := ⟨_, Try.underlying4, trivial⟩
theorem places60 : PlacesOf Try.prog 60 [(0, 1), (1, 1)] := ⟨_, Try.underlying60, rfl, by kernel_rfl⟩
theorem size60 : (Try.prog.info? 60).map (·.size) = some 2 := by kernel_rfl
theorem body28 : Body Try.prog 28 := body_of Try.func28 rfl rfl
theorem body27 : Body Try.prog 27 := body_of Try.func27 rfl rfl
theorem foff60_0 : FieldOff Try.prog 60 0 0 := ⟨_, _, 1, Try.underlying60, rfl, rfl, by kernel_rfl, by decide⟩
theorem body18 : Body Try.prog 18 := body_of Try.func18 rfl rfl
theorem size3 : (Try.prog.info? 3).map (·.size) = some 1 := by kernel_rfl
theorem body21 : Body Try.prog 21 := body_of Try.func21 rfl rfl
theorem scalar24 : Scalar Try.prog 24 := ⟨_, Try.underlying24, trivial⟩
theorem body32 : Body Try.prog 32 := body_of Try.func32 rfl rfl
theorem zero22 : ZeroOf Try.prog 22 (.slice none 0 0) := by unfold ZeroOf; kernel_rfl
theorem scalar22 : Scalar Try.prog 22 := ⟨_, Try.underlying22, trivial⟩
theorem slice22 : SliceOf Try.prog 22 3 1 := ⟨Try.underlying22, by kernel_rfl⟩
theorem zero3 : ZeroOf Try.prog 3 (.int .i64 0) := by unfold ZeroOf; kernel_rfl
theorem bytes3 : BytesOf Try.prog 3 8 := by unfold BytesOf; kernel_rfl
theorem size22 : (Try.prog.info? 22).map (·.size) = some 1 := by kernel_rfl
theorem body29 : Body Try.prog 29 := body_of Try.func29 rfl rfl
theorem body10 : Body Try.prog 10 := body_of Try.func10 rfl rfl
theorem body14 : Body Try.prog 14 := body_of Try.func14 rfl rfl
theorem body15 : Body Try.prog 15 := body_of Try.func15 rfl rfl
theorem body12 : Body Try.prog 12 := body_of Try.func12 rfl rfl
theorem body13 : Body Try.prog 13 := body_of Try.func13 rfl rfl
theorem body11 : Body Try.prog 11 := body_of Try.func11 rfl rfl
theorem body8 : Body Try.prog 8 := body_of Try.func8 rfl rfl
theorem body26 : Body Try.prog 26 := body_of Try.func26 rfl rfl
theorem body7 : Body Try.prog 7 := body_of Try.func7 rfl rfl
theorem body9 : Body Try.prog 9 := body_of Try.func9 rfl rfl
theorem places52 : PlacesOf Try.prog 52 [(0, 1), (1, 1), (2, 1)] := ⟨_, Try.underlying52, rfl, by kernel_rfl⟩
theorem zero52 : ZeroOf Try.prog 52 (.agg ([.int .i64 0, .int .i64 0, .slice none 0 0] : List Value).toArray) := by unfold ZeroOf; kernel_rfl
theorem body30 : Body Try.prog 30 := body_of Try.func30 rfl rfl
theorem foff52_2 : FieldOff Try.prog 52 2 2 := ⟨_, _, 1, Try.underlying52, rfl, rfl, by kernel_rfl, by decide⟩
theorem scalar50 : Scalar Try.prog 50 := ⟨_, Try.underlying50, trivial⟩
theorem slice50 : SliceOf Try.prog 50 68 6 := ⟨Try.underlying50, by kernel_rfl⟩
theorem foff68_0 : FieldOff Try.prog 68 0 0 := ⟨_, _, 1, Try.underlying68, rfl, rfl, by kernel_rfl, by decide⟩
theorem foff52_1 : FieldOff Try.prog 52 1 1 := ⟨_, _, 1, Try.underlying52, rfl, rfl, by kernel_rfl, by decide⟩
theorem foff52_0 : FieldOff Try.prog 52 0 0 := ⟨_, _, 1, Try.underlying52, rfl, rfl, by kernel_rfl, by decide⟩
theorem bytes68 : BytesOf Try.prog 68 64 := by unfold BytesOf; kernel_rfl
theorem zero68 : ZeroOf Try.prog 68 (.agg ([.int .i64 0, .int .i64 0, .int .i64 0, .int .i64 0, .int .i64 0, .slice none 0 0] : List Value).toArray) := by unfold ZeroOf; kernel_rfl
theorem aggr46 : Aggr Try.prog 46 5 := ⟨⟨_, Try.underlying46, trivial⟩, by kernel_rfl⟩
theorem places68 : PlacesOf Try.prog 68 [(0, 1), (1, 5)] := ⟨_, Try.underlying68, rfl, by kernel_rfl⟩
theorem size50 : (Try.prog.info? 50).map (·.size) = some 1 := by kernel_rfl
theorem body31 : Body Try.prog 31 := body_of Try.func31 rfl rfl
theorem zero46 : ZeroOf Try.prog 46 (.agg ([.int .i64 0, .int .i64 0, .int .i64 0, .int .i64 0, .slice none 0 0] : List Value).toArray) := by unfold ZeroOf; kernel_rfl
theorem places46 : PlacesOf Try.prog 46 [(0, 1), (1, 1), (2, 1), (3, 1), (4, 1)] := ⟨_, Try.underlying46, rfl, by kernel_rfl⟩
theorem size46 : (Try.prog.info? 46).map (·.size) = some 5 := by kernel_rfl
theorem foff68_1 : FieldOff Try.prog 68 1 1 := ⟨_, _, 5, Try.underlying68, rfl, rfl, by kernel_rfl, by decide⟩
theorem body22 : Body Try.prog 22 := body_of Try.func22 rfl rfl
theorem body19 : Body Try.prog 19 := body_of Try.func19 rfl rfl
theorem slice38 : SliceOf Try.prog 38 42 3 := ⟨Try.underlying38, by kernel_rfl⟩
theorem aggr42 : Aggr Try.prog 42 3 := ⟨⟨_, Try.underlying42, trivial⟩, by kernel_rfl⟩
theorem zero42 : ZeroOf Try.prog 42 (.agg ([.int .i64 0, .int .i64 0, .int .i64 0] : List Value).toArray) := by unfold ZeroOf; kernel_rfl
theorem size42 : (Try.prog.info? 42).map (·.size) = some 3 := by kernel_rfl
theorem foff42_0 : FieldOff Try.prog 42 0 0 := ⟨_, _, 1, Try.underlying42, rfl, rfl, by kernel_rfl, by decide⟩
theorem body25 : Body Try.prog 25 := body_of Try.func25 rfl rfl
theorem foff42_1 : FieldOff Try.prog 42 1 1 := ⟨_, _, 1, Try.underlying42, rfl, rfl, by kernel_rfl, by decide⟩
theorem foff42_2 : FieldOff Try.prog 42 2 2 := ⟨_, _, 1, Try.underlying42, rfl, rfl, by kernel_rfl, by decide⟩
theorem body17 : Body Try.prog 17 := body_of Try.func17 rfl rfl
theorem foff46_1 : FieldOff Try.prog 46 1 1 := ⟨_, _, 1, Try.underlying46, rfl, rfl, by kernel_rfl, by decide⟩
theorem body20 : Body Try.prog 20 := body_of Try.func20 rfl rfl
theorem body24 : Body Try.prog 24 := body_of Try.func24 rfl rfl
theorem body23 : Body Try.prog 23 := body_of Try.func23 rfl rfl
theorem body16 : Body Try.prog 16 := body_of Try.func16 rfl rfl

/-- keelson.window.New[int] -/
def window_New_int (p0 : Int) (p1 : Int) (H : PH) (Q : Option Addr → PH → Prop) : Prop :=
  mJoin (fun (s2 : Bool) (H4 : PH) =>
  mJoin (fun (s7 : Bool) (H9 : PH) =>
  mJoin (fun (s12 : Bool) (H14 : PH) =>
  mIf s12
  (Q none H14)
  (mMk H14 60 16 [.int .i64 0, .bool false] p0 p0 fun r17 H18 =>
  mNew H18 (row [Sl.v r17, .int .i64 p1] 58) fun a21 H22 =>
  Q (some a21) H22))
  fun j13 =>
  mIf s7
  (j13 true H9)
  (j13 (decide (2147483647 < p1)) H9))
  fun j8 =>
  mIf s2
  (j8 true H4)
  (j8 (decide (p1 < 1)) H4))
  fun j3 =>
  mIf (decide (p0 < 1))
  (j3 true H)
  (j3 (decide (16 < p0)) H)

set_option maxRecDepth 20000 in
set_option maxHeartbeats 1000000 in
theorem window_New_int_s (p0 : Int) (p1 : Int) (H : PH) (Q : Option Addr → PH → Prop) (h : window_New_int p0 p1 H Q) :
    CallsH Try.prog 8 #[.int .i64 p0, .int .i64 p1] H (fun v H' => ∃ (r0 : Option Addr), v = .pointer r0 ∧ Q r0 H') := by
  unfold window_New_int at h
  refine callsH_of_go Try.func8 rfl Try.ntmps8 (Nat.le_of_ble_eq_true rfl) ?_
  refine Go.seq ?_
  refine Go.region rfl ?_
  refine GoOps.q (v := .pointer none) rfl rfl (by decide) (q_assign rfl) ?_
  refine GoOps.nil ?_
  refine Go.seq ?_
  refine Go.seq ?_
  refine Go.region rfl ?_
  refine GoOps.q (v := .int .i64 p0) rfl rfl (by decide) (q_move rfl) ?_
  refine GoOps.q (v := .bool (decide (p0 < 1))) rfl rfl (by decide) (q_lss rfl rfl) ?_
  refine GoOps.q (v := .bool (decide (p0 < 1))) rfl rfl (by decide) (q_move rfl) ?_
  refine join_ops 3 (fun ρ (s2 : Bool) => ρ 0 = .int .i64 p0 ∧ ρ 1 = .int .i64 p1 ∧ ρ 10 = .bool s2) h ?_ ?_ <;> clear h
  · intro s2 H4 ρ h hE
    obtain ⟨e5_0, e5_1, e5_10⟩ := hE
    refine GoOps.q (v := .bool s2) rfl rfl (by decide) (q_move e5_10) ?_
    refine join_ops 3 (fun ρ (s7 : Bool) => ρ 0 = .int .i64 p0 ∧ ρ 1 = .int .i64 p1 ∧ ρ 14 = .bool s7) h ?_ ?_ <;> clear h
    · intro s7 H9 ρ h hE
      obtain ⟨e10_0, e10_1, e10_14⟩ := hE
      refine GoOps.q (v := .bool s7) rfl rfl (by decide) (q_move e10_14) ?_
      refine join_ops 3 (fun ρ (s12 : Bool) => ρ 0 = .int .i64 p0 ∧ ρ 1 = .int .i64 p1 ∧ ρ 18 = .bool s12) h ?_ ?_ <;> clear h
      · intro s12 H14 ρ h hE
        obtain ⟨e15_0, e15_1, e15_18⟩ := hE
        refine GoOps.nil ?_
        rcases bor s12 with hc16 | hc16
        · have h := h.1 hc16
          refine Go.condT (btT e15_18 hc16) ?_
          refine Go.seq ?_
          refine Go.region rfl ?_
          refine GoOps.q (v := .pointer none) rfl rfl (by decide) (q_assign rfl) ?_
          refine GoOps.nil ?_
          exact Go.ret ⟨.inl rfl, _, _, DOk.nil, (resOk1 Try.results8 rfl), ⟨_, rfl, h⟩⟩
        · have h := h.2 hc16
          refine Go.condF (btF e15_18 hc16) ?_
          refine Go.skip ?_
          refine Go.seq ?_
          refine Go.region rfl ?_
          refine GoOps.q (v := .int .i64 p0) rfl rfl (by decide) (q_move e15_0) ?_
          obtain ⟨hm20, h⟩ := h
          refine op_dst rfl rfl (by decide) (do_mk (zs := [.int .i64 0, .bool false]) slice56 bytes60 (by decide) zero60 rfl rfl (by decide) rfl rfl hm20 fun r17 H18 hb19 => ?_) 
          have h := h r17 H18 hb19
          refine GoOps.q (v := .int .i64 p1) rfl rfl (by decide) (q_move e15_1) ?_
          refine GoOps.q (v := .agg ([Sl.v r17, .int .i64 p1] : List Value).toArray) rfl rfl (by decide) (q_build (ps := [(0, Sl.v r17), (1, .int .i64 p1)]) (cs := [Sl.v r17, .int .i64 p1]) places58 zero58 rfl rfl rfl) ?_
          refine op_dst rfl rfl (by decide) (do_newBox (cs := [Sl.v r17, .int .i64 p1]) rfl rfl fun a21 H22 hb23 => ?_) 
          have h := h a21 H22 hb23
          refine GoOps.q (v := .pointer (some a21)) rfl rfl (by decide) (q_assign rfl) ?_
          refine GoOps.nil ?_
          exact Go.ret ⟨.inl rfl, _, _, DOk.nil, (resOk1 Try.results8 rfl), ⟨_, rfl, h⟩⟩
      · intro j13 hj13 h
        rcases bor s7 with hc11 | hc11
        · have h := h.1 hc11
          refine no_dst (want_no rfl rfl rfl hc11) rfl (by decide) ?_
          refine no_dst (want_no rfl rfl rfl hc11) rfl (by decide) ?_
          refine GoOps.q (v := .bool true) rfl rfl (by decide) (q_pickT (btT rfl hc11) rfl) ?_
          exact hj13 true _ _ h (by exact ⟨e10_0, e10_1, rfl⟩)
        · have h := h.2 hc11
          refine GoOps.q (v := .int .i64 p1) (want_yes rfl rfl rfl hc11) rfl (by decide) (q_move e10_1) ?_
          refine GoOps.q (v := .bool (decide (2147483647 < p1))) (want_yes rfl rfl rfl hc11) rfl (by decide) (q_gtr rfl rfl) ?_
          refine GoOps.q (v := .bool (decide (2147483647 < p1))) rfl rfl (by decide) (q_pickF (btF rfl hc11) rfl) ?_
          exact hj13 (decide (2147483647 < p1)) _ _ h (by exact ⟨e10_0, e10_1, rfl⟩)
    · intro j8 hj8 h
      rcases bor s2 with hc6 | hc6
      · have h := h.1 hc6
        refine no_dst (want_no rfl rfl rfl hc6) rfl (by decide) ?_
        refine no_dst (want_no rfl rfl rfl hc6) rfl (by decide) ?_
        refine GoOps.q (v := .bool true) rfl rfl (by decide) (q_pickT (btT rfl hc6) rfl) ?_
        exact hj8 true _ _ h (by exact ⟨e5_0, e5_1, rfl⟩)
      · have h := h.2 hc6
        refine GoOps.q (v := .int .i64 p1) (want_yes rfl rfl rfl hc6) rfl (by decide) (q_move e5_1) ?_
        refine GoOps.q (v := .bool (decide (p1 < 1))) (want_yes rfl rfl rfl hc6) rfl (by decide) (q_lss rfl rfl) ?_
        refine GoOps.q (v := .bool (decide (p1 < 1))) rfl rfl (by decide) (q_pickF (btF rfl hc6) rfl) ?_
        exact hj8 (decide (p1 < 1)) _ _ h (by exact ⟨e5_0, e5_1, rfl⟩)
  · intro j3 hj3 h
    rcases bor (decide (p0 < 1)) with hc1 | hc1
    · have h := h.1 hc1
      refine no_dst (want_no rfl rfl rfl hc1) rfl (by decide) ?_
      refine no_dst (want_no rfl rfl rfl hc1) rfl (by decide) ?_
      refine GoOps.q (v := .bool true) rfl rfl (by decide) (q_pickT (btT rfl hc1) rfl) ?_
      exact hj3 true _ _ h (by exact ⟨rfl, rfl, rfl⟩)
    · have h := h.2 hc1
      refine GoOps.q (v := .int .i64 p0) (want_yes rfl rfl rfl hc1) rfl (by decide) (q_move rfl) ?_
      refine GoOps.q (v := .bool (decide (16 < p0))) (want_yes rfl rfl rfl hc1) rfl (by decide) (q_gtr rfl rfl) ?_
      refine GoOps.q (v := .bool (decide (16 < p0))) rfl rfl (by decide) (q_pickF (btF rfl hc1) rfl) ?_
      exact hj3 (decide (16 < p0)) _ _ h (by exact ⟨rfl, rfl, rfl⟩)

/-- (*keelson.window.Window[int]).none -/
def window_Window_int_none (p0 : Option Addr) (H : PH) (Q : Bool → PH → Prop) : Prop :=
  mJoin (fun (s2 : Bool) (H4 : PH) =>
  Q s2 H4)
  fun j3 =>
  mIf (Option.isNone p0)
  (j3 true H)
  (mNil p0 fun a6 =>
  mLd Sl.v H (a6.add 0) fun x8 =>
  j3 ((x8.len : Int) == 0) H)

set_option maxRecDepth 20000 in
set_option maxHeartbeats 1000000 in
theorem window_Window_int_none_s (p0 : Option Addr) (H : PH) (Q : Bool → PH → Prop) (h : window_Window_int_none p0 H Q) :
    CallsH Try.prog 27 #[.pointer p0] H (fun v H' => ∃ (r0 : Bool), v = .bool r0 ∧ Q r0 H') := by
  unfold window_Window_int_none at h
  refine callsH_of_go Try.func27 rfl Try.ntmps27 (Nat.le_of_ble_eq_true rfl) ?_
  refine Go.seq ?_
  refine Go.region rfl ?_
  refine GoOps.q (v := .bool false) rfl rfl (by decide) (q_assign rfl) ?_
  refine GoOps.nil ?_
  refine Go.seq ?_
  refine Go.region rfl ?_
  refine GoOps.q (v := .pointer p0) rfl rfl (by decide) (q_move rfl) ?_
  refine GoOps.q (v := .bool (Option.isNone p0)) rfl rfl (by decide) (q_eqlPn Try.underlying24 rfl rfl) ?_
  refine GoOps.q (v := .bool (Option.isNone p0)) rfl rfl (by decide) (q_move rfl) ?_
  refine join_ops 7 (fun ρ (s2 : Bool) => ρ 12 = .bool s2) h ?_ ?_ <;> clear h
  · intro s2 H4 ρ h hE
    have e5_12 := hE
    refine GoOps.q (v := .bool s2) rfl rfl (by decide) (q_assign e5_12) ?_
    refine GoOps.nil ?_
    exact Go.ret ⟨.inl rfl, _, _, DOk.nil, (resOk1 Try.results27 rfl), ⟨_, rfl, h⟩⟩
  · intro j3 hj3 h
    rcases bor (Option.isNone p0) with hc1 | hc1
    · have h := h.1 hc1
      refine no_dst (want_no rfl rfl rfl hc1) rfl (by decide) ?_
      refine no_dst (want_no rfl rfl rfl hc1) rfl (by decide) ?_
      refine no_dst (want_no rfl rfl rfl hc1) rfl (by decide) ?_
      refine no_dst (want_no rfl rfl rfl hc1) rfl (by decide) ?_
      refine no_dst (want_no rfl rfl rfl hc1) rfl (by decide) ?_
      refine no_dst (want_no rfl rfl rfl hc1) rfl (by decide) ?_
      refine GoOps.q (v := .bool true) rfl rfl (by decide) (q_pickT (btT rfl hc1) rfl) ?_
      exact hj3 true _ _ h (by exact rfl)
    · have h := h.2 hc1
      refine GoOps.q (v := .pointer p0) (want_yes rfl rfl rfl hc1) rfl (by decide) (q_move rfl) ?_
      obtain ⟨a6, ha7, h⟩ := h
      refine GoOps.q (v := .pointer (some a6)) (want_yes rfl rfl rfl hc1) rfl (by decide) (q_nilCheck (ptn rfl ha7)) ?_
      refine GoOps.q (v := .pointer (some (a6.add 0))) (want_yes rfl rfl rfl hc1) rfl (by decide) (q_fieldAddr foff58_0 rfl) ?_
      obtain ⟨x8, hx9, h⟩ := h
      refine GoOps.q (v := Sl.v x8) (want_yes rfl rfl rfl hc1) rfl (by decide) (q_load scalar56 rfl hx9) ?_
      refine GoOps.q (v := .int .i64 (x8.len : Int)) (want_yes rfl rfl rfl hc1) rfl (by decide) (q_len Try.underlying56 rfl (ls1 rfl)) ?_
      refine GoOps.q (v := .bool ((x8.len : Int) == 0)) (want_yes rfl rfl rfl hc1) rfl (by decide) (q_eql rfl rfl) ?_
      refine GoOps.q (v := .bool ((x8.len : Int) == 0)) rfl rfl (by decide) (q_pickF (btF rfl hc1) rfl) ?_
      exact hj3 ((x8.len : Int) == 0) _ _ h (by exact rfl)

/-- (*keelson.window.Window[int]).at -/
def window_Window_int_at (p0 : Option Addr) (p1 : Int) (H : PH) (Q : Option Addr → PH → Prop) : Prop :=
  mNil p0 fun a1 =>
  mLd Sl.v H (a1.add 0) fun x3 =>
  mNil p0 fun a5 =>
  mLd Sl.v H (a5.add 0) fun x7 =>
  mNe (x7.len : Int) <|
  mIdx x3 2 (Int.tmod p1 (x7.len : Int)) fun a10 =>
  Q (some a10) H

set_option maxRecDepth 20000 in
set_option maxHeartbeats 1000000 in
theorem window_Window_int_at_s (p0 : Option Addr) (p1 : Int) (H : PH) (Q : Option Addr → PH → Prop) (h : window_Window_int_at p0 p1 H Q) :
    CallsH Try.prog 28 #[.pointer p0, .int .i64 p1] H (fun v H' => ∃ (r0 : Option Addr), v = .pointer r0 ∧ Q r0 H') := by
  unfold window_Window_int_at at h
  refine callsH_of_go Try.func28 rfl Try.ntmps28 (Nat.le_of_ble_eq_true rfl) ?_
  refine Go.seq ?_
  refine Go.region rfl ?_
  refine GoOps.q (v := .pointer none) rfl rfl (by decide) (q_assign rfl) ?_
  refine GoOps.nil ?_
  refine Go.seq ?_
  refine Go.draw mixed ?_
  refine plan_pure (i := 0) (d := 5) (S2 := 1) (v := .pointer p0) rfl (by decide +kernel) rfl (q_move rfl) ?_
  obtain ⟨a1, ha2, h⟩ := h
  refine plan_pure (i := 1) (d := 6) (S2 := 3) (v := .pointer (some a1)) rfl (by decide +kernel) rfl (q_nilCheck (ptn rfl ha2)) ?_
  refine plan_pure (i := 2) (d := 7) (S2 := 7) (v := .pointer (some (a1.add 0))) rfl (by decide +kernel) rfl (q_fieldAddr foff58_0 rfl) ?_
  obtain ⟨x3, hx4, h⟩ := h
  refine plan_load (i := 3) (d := 8) (S2 := 15) (v := Sl.v x3) rfl (by decide +kernel) rfl (q_load scalar56 rfl hx4) ?_
  refine plan_pure (i := 4) (d := 9) (S2 := 31) (v := .int .i64 p1) rfl (by decide +kernel) rfl (q_move rfl) ?_
  refine plan_pure (i := 5) (d := 10) (S2 := 63) (v := .pointer p0) rfl (by decide +kernel) rfl (q_move rfl) ?_
  obtain ⟨a5, ha6, h⟩ := h
  refine plan_pure (i := 6) (d := 11) (S2 := 127) (v := .pointer (some a5)) rfl (by decide +kernel) rfl (q_nilCheck (ptn rfl ha6)) ?_
  refine plan_pure (i := 7) (d := 12) (S2 := 255) (v := .pointer (some (a5.add 0))) rfl (by decide +kernel) rfl (q_fieldAddr foff58_0 rfl) ?_
  obtain ⟨x7, hx8, h⟩ := h
  refine plan_load (i := 8) (d := 13) (S2 := 511) (v := Sl.v x7) rfl (by decide +kernel) rfl (q_load scalar56 rfl hx8) ?_
  refine plan_pure (i := 9) (d := 14) (S2 := 1023) (v := .int .i64 (x7.len : Int)) rfl (by decide +kernel) rfl (q_len Try.underlying56 rfl (ls1 rfl)) ?_
  obtain ⟨hn9, h⟩ := h
  refine plan_pure (i := 10) (d := 15) (S2 := 2047) (v := .int .i64 (Int.tmod p1 (x7.len : Int))) rfl (by decide +kernel) rfl (q_rem hn9 rfl rfl) ?_
  obtain ⟨a10, ha11, h⟩ := h
  refine plan_pure (i := 11) (d := 16) (S2 := 4095) (v := .pointer (some a10)) rfl (by decide +kernel) rfl (q_idx slice56 ha11 rfl rfl) ?_
  refine plan_pure (i := 12) (d := 4) (S2 := 8191) (v := .pointer (some a10)) rfl (by decide +kernel) rfl (q_assign rfl) ?_
  refine plan_done (by decide +kernel) ?_
  exact Go.ret ⟨.inl rfl, _, _, DOk.nil, (resOk1 Try.results28 rfl), ⟨_, rfl, h⟩⟩

/-- (*keelson.window.Window[int]).Put -/
def window_Window_int_Put (p0 : Option Addr) (p1 : Int) (p2 : Int) (H : PH) (Q : Int → PH → Prop) : Prop :=
  window_Window_int_none p0 H fun y2 H1 =>
  mIf y2
  (Q 10 H1)
  (mNil p0 fun a4 =>
  mLd (.int .i64) H1 (a4.add 1) fun x6 =>
  mIf (decide (p1 < x6))
  (Q 9 H1)
  (mNil p0 fun a9 =>
  mLd (.int .i64) H1 (a9.add 1) fun x11 =>
  mNil p0 fun a13 =>
  mLd Sl.v H1 (a13.add 0) fun x15 =>
  mIf (decide ((IntKind.wrap .i64 (x11 + (x15.len : Int))) ≤ p1))
  (Q 10 H1)
  (window_Window_int_at p0 p1 H1 fun y19 H18 =>
  mNil y19 fun a20 =>
  mLd .bool H18 (a20.add 1) fun x22 =>
  mIf x22
  (Q 9 H18)
  (window_Window_int_at p0 p1 H18 fun y26 H25 =>
  mNil y26 fun a27 =>
  mSt H25 a27 ([.int .i64 p2, .bool true]) fun H29 =>
  Q 0 H29))))

set_option maxRecDepth 20000 in
set_option maxHeartbeats 1000000 in
theorem window_Window_int_Put_s (p0 : Option Addr) (p1 : Int) (p2 : Int) (H : PH) (Q : Int → PH → Prop) (h : window_Window_int_Put p0 p1 p2 H Q) :
    CallsH Try.prog 10 #[.pointer p0, .int .i64 p1, .int .i64 p2] H (fun v H' => ∃ (r0 : Int), v = .int .i64 r0 ∧ Q r0 H') := by
  unfold window_Window_int_Put at h
  refine callsH_of_go Try.func10 rfl Try.ntmps10 (Nat.le_of_ble_eq_true rfl) ?_
  refine Go.seq ?_
  refine Go.region rfl ?_
  refine GoOps.q (v := .int .i64 0) rfl rfl (by decide) (q_assign rfl) ?_
  refine GoOps.nil ?_
  refine Go.seq ?_
  refine Go.block ?_
  refine Go.seq ?_
  refine Go.region rfl ?_
  refine GoOps.q (v := .pointer p0) rfl rfl (by decide) (q_move rfl) ?_
  refine call_dst rfl (by decide) body27 (window_Window_int_none_s _ _ _ h) rfl ?_
  rintro _ H1 ⟨y2, rfl, h⟩
  refine GoOps.q (v := .bool y2) rfl rfl (by decide) (q_assign rfl) ?_
  refine GoOps.nil ?_
  rcases bor y2 with hc3 | hc3
  · have h := h.1 hc3
    refine Go.condT (btT rfl hc3) ?_
    refine Go.seq ?_
    refine Go.region rfl ?_
    refine GoOps.q (v := .int .i64 10) rfl rfl (by decide) (q_assign rfl) ?_
    refine GoOps.nil ?_
    exact Go.ret ⟨.inl rfl, _, _, DOk.nil, (resOk1 Try.results10 rfl), ⟨_, rfl, h⟩⟩
  · have h := h.2 hc3
    refine Go.condF (btF rfl hc3) ?_
    refine Go.seq ?_
    refine Go.region rfl ?_
    refine GoOps.q (v := .int .i64 p1) rfl rfl (by decide) (q_move rfl) ?_
    refine GoOps.q (v := .pointer p0) rfl rfl (by decide) (q_move rfl) ?_
    obtain ⟨a4, ha5, h⟩ := h
    refine GoOps.q (v := .pointer (some a4)) rfl rfl (by decide) (q_nilCheck (ptn rfl ha5)) ?_
    refine GoOps.q (v := .pointer (some (a4.add 1))) rfl rfl (by decide) (q_fieldAddr foff58_1 rfl) ?_
    obtain ⟨x6, hx7, h⟩ := h
    refine GoOps.q (v := .int .i64 x6) rfl rfl (by decide) (q_load scalar3 rfl hx7) ?_
    refine GoOps.q (v := .bool (decide (p1 < x6))) rfl rfl (by decide) (q_lss rfl rfl) ?_
    refine GoOps.q (v := .bool (decide (p1 < x6))) rfl rfl (by decide) (q_assign rfl) ?_
    refine GoOps.nil ?_
    rcases bor (decide (p1 < x6)) with hc8 | hc8
    · have h := h.1 hc8
      refine Go.condT (btT rfl hc8) ?_
      refine Go.seq ?_
      refine Go.region rfl ?_
      refine GoOps.q (v := .int .i64 9) rfl rfl (by decide) (q_assign rfl) ?_
      refine GoOps.nil ?_
      exact Go.ret ⟨.inl rfl, _, _, DOk.nil, (resOk1 Try.results10 rfl), ⟨_, rfl, h⟩⟩
    · have h := h.2 hc8
      refine Go.condF (btF rfl hc8) ?_
      refine Go.seq ?_
      refine Go.draw mixed ?_
      refine plan_pure (i := 0) (d := 18) (S2 := 1) (v := .int .i64 p1) rfl (by decide +kernel) rfl (q_move rfl) ?_
      refine plan_pure (i := 1) (d := 19) (S2 := 3) (v := .pointer p0) rfl (by decide +kernel) rfl (q_move rfl) ?_
      obtain ⟨a9, ha10, h⟩ := h
      refine plan_pure (i := 2) (d := 20) (S2 := 7) (v := .pointer (some a9)) rfl (by decide +kernel) rfl (q_nilCheck (ptn rfl ha10)) ?_
      refine plan_pure (i := 3) (d := 21) (S2 := 15) (v := .pointer (some (a9.add 1))) rfl (by decide +kernel) rfl (q_fieldAddr foff58_1 rfl) ?_
      obtain ⟨x11, hx12, h⟩ := h
      refine plan_load (i := 4) (d := 22) (S2 := 31) (v := .int .i64 x11) rfl (by decide +kernel) rfl (q_load scalar3 rfl hx12) ?_
      refine plan_pure (i := 5) (d := 23) (S2 := 63) (v := .pointer p0) rfl (by decide +kernel) rfl (q_move rfl) ?_
      obtain ⟨a13, ha14, h⟩ := h
      refine plan_pure (i := 6) (d := 24) (S2 := 127) (v := .pointer (some a13)) rfl (by decide +kernel) rfl (q_nilCheck (ptn rfl ha14)) ?_
      refine plan_pure (i := 7) (d := 25) (S2 := 255) (v := .pointer (some (a13.add 0))) rfl (by decide +kernel) rfl (q_fieldAddr foff58_0 rfl) ?_
      obtain ⟨x15, hx16, h⟩ := h
      refine plan_load (i := 8) (d := 26) (S2 := 511) (v := Sl.v x15) rfl (by decide +kernel) rfl (q_load scalar56 rfl hx16) ?_
      refine plan_pure (i := 9) (d := 27) (S2 := 1023) (v := .int .i64 (x15.len : Int)) rfl (by decide +kernel) rfl (q_len Try.underlying56 rfl (ls1 rfl)) ?_
      refine plan_pure (i := 10) (d := 28) (S2 := 2047) (v := .int .i64 (IntKind.wrap .i64 (x11 + (x15.len : Int)))) rfl (by decide +kernel) rfl (q_add rfl rfl) ?_
      refine plan_pure (i := 11) (d := 29) (S2 := 4095) (v := .bool (decide ((IntKind.wrap .i64 (x11 + (x15.len : Int))) ≤ p1))) rfl (by decide +kernel) rfl (q_geq rfl rfl) ?_
      refine plan_pure (i := 12) (d := 17) (S2 := 8191) (v := .bool (decide ((IntKind.wrap .i64 (x11 + (x15.len : Int))) ≤ p1))) rfl (by decide +kernel) rfl (q_assign rfl) ?_
      refine plan_done (by decide +kernel) ?_
      rcases bor (decide ((IntKind.wrap .i64 (x11 + (x15.len : Int))) ≤ p1)) with hc17 | hc17
      · have h := h.1 hc17
        refine Go.condT (btT rfl hc17) ?_
        refine Go.seq ?_
        refine Go.region rfl ?_
        refine GoOps.q (v := .int .i64 10) rfl rfl (by decide) (q_assign rfl) ?_
        refine GoOps.nil ?_
        exact Go.ret ⟨.inl rfl, _, _, DOk.nil, (resOk1 Try.results10 rfl), ⟨_, rfl, h⟩⟩
      · have h := h.2 hc17
        refine Go.condF (btF rfl hc17) ?_
        refine Go.seq ?_
        refine Go.region rfl ?_
        refine GoOps.q (v := .pointer p0) rfl rfl (by decide) (q_move rfl) ?_
        refine GoOps.q (v := .int .i64 p1) rfl rfl (by decide) (q_move rfl) ?_
        refine call_dst rfl (by decide) body28 (window_Window_int_at_s _ _ _ _ h) rfl ?_
        rintro _ H18 ⟨y19, rfl, h⟩
        obtain ⟨a20, ha21, h⟩ := h
        refine GoOps.q (v := .pointer (some a20)) rfl rfl (by decide) (q_nilCheck (ptn rfl ha21)) ?_
        refine GoOps.q (v := .pointer (some (a20.add 1))) rfl rfl (by decide) (q_fieldAddr foff60_1 rfl) ?_
        obtain ⟨x22, hx23, h⟩ := h
        refine GoOps.q (v := .bool x22) rfl rfl (by decide) (q_load scalar4 rfl hx23) ?_
        refine GoOps.q (v := .bool x22) rfl rfl (by decide) (q_assign rfl) ?_
        refine GoOps.nil ?_
        rcases bor x22 with hc24 | hc24
        · have h := h.1 hc24
          refine Go.condT (btT rfl hc24) ?_
          refine Go.seq ?_
          refine Go.region rfl ?_
          refine GoOps.q (v := .int .i64 9) rfl rfl (by decide) (q_assign rfl) ?_
          refine GoOps.nil ?_
          exact Go.ret ⟨.inl rfl, _, _, DOk.nil, (resOk1 Try.results10 rfl), ⟨_, rfl, h⟩⟩
        · have h := h.2 hc24
          refine Go.condF (btF rfl hc24) ?_
          refine Go.skip ?_
          refine Go.inBlock ?_
          refine Go.seq ?_
          refine Go.region rfl ?_
          refine GoOps.q (v := .pointer p0) rfl rfl (by decide) (q_move rfl) ?_
          refine GoOps.q (v := .int .i64 p1) rfl rfl (by decide) (q_move rfl) ?_
          refine call_dst rfl (by decide) body28 (window_Window_int_at_s _ _ _ _ h) rfl ?_
          rintro _ H25 ⟨y26, rfl, h⟩
          refine GoOps.q (v := .int .i64 p2) rfl rfl (by decide) (q_move rfl) ?_
          refine GoOps.q (v := .agg ([.int .i64 p2, .bool true] : List Value).toArray) rfl rfl (by decide) (q_build (ps := [(0, .int .i64 p2), (1, .bool true)]) (cs := [.int .i64 p2, .bool true]) places60 zero60 rfl rfl rfl) ?_
          obtain ⟨a27, ha28, h⟩ := h
          refine GoOps.q (v := .pointer (some a27)) rfl rfl (by decide) (q_nilCheck (ptn rfl ha28)) ?_
          obtain ⟨q30b, q30o, q30c, q30e, hq30a, hq30b, hq30l, hq30v, h⟩ := h
          refine op_none rfl rfl (do_store (vs := [.int .i64 p2, .bool true]) size60 (pta rfl hq30a) rfl rfl rfl hq30v hq30b hq30l ?_) 
          refine GoOps.nil ?_
          refine Go.seq ?_
          refine Go.region rfl ?_
          refine GoOps.q (v := .int .i64 0) rfl rfl (by decide) (q_assign rfl) ?_
          refine GoOps.nil ?_
          exact Go.ret ⟨.inl rfl, _, _, DOk.nil, (resOk1 Try.results10 rfl), ⟨_, rfl, h⟩⟩

/-- (*keelson.window.Window[int]).Peek -/
def window_Window_int_Peek (p0 : Option Addr) (H : PH) (Q : Int → Bool → PH → Prop) : Prop :=
  window_Window_int_none p0 H fun y2 H1 =>
  mIf y2
  (Q 0 false H1)
  (mNil p0 fun a4 =>
  mLd (.int .i64) H1 (a4.add 1) fun x6 =>
  window_Window_int_at p0 x6 H1 fun y9 H8 =>
  mNil y9 fun a10 =>
  mLd (.int .i64) H8 (a10.add 0) fun x12 =>
  mNil y9 fun a14 =>
  mLd .bool H8 (a14.add 1) fun x16 =>
  Q x12 x16 H8)

set_option maxRecDepth 20000 in
set_option maxHeartbeats 1000000 in
theorem window_Window_int_Peek_s (p0 : Option Addr) (H : PH) (Q : Int → Bool → PH → Prop) (h : window_Window_int_Peek p0 H Q) :
    CallsH Try.prog 18 #[.pointer p0] H (fun v H' => ∃ (r0 : Int) (r1 : Bool), v = .tuple #[.int .i64 r0, .bool r1] ∧ Q r0 r1 H') := by
  unfold window_Window_int_Peek at h
  refine callsH_of_go Try.func18 rfl Try.ntmps18 (Nat.le_of_ble_eq_true rfl) ?_
  refine Go.seq ?_
  refine Go.region rfl ?_
  refine GoOps.q (v := .int .i64 0) rfl rfl (by decide) (q_assign rfl) ?_
  refine GoOps.q (v := .bool false) rfl rfl (by decide) (q_assign rfl) ?_
  refine GoOps.nil ?_
  refine Go.seq ?_
  refine Go.seq ?_
  refine Go.region rfl ?_
  refine GoOps.q (v := .pointer p0) rfl rfl (by decide) (q_move rfl) ?_
  refine call_dst rfl (by decide) body27 (window_Window_int_none_s _ _ _ h) rfl ?_
  rintro _ H1 ⟨y2, rfl, h⟩
  refine GoOps.nil ?_
  rcases bor y2 with hc3 | hc3
  · have h := h.1 hc3
    refine Go.condT (btT rfl hc3) ?_
    refine Go.seq ?_
    refine Go.region rfl ?_
    refine GoOps.q (v := .int .i64 0) rfl rfl (by decide) (q_move rfl) ?_
    refine GoOps.q (v := .int .i64 0) rfl rfl (by decide) (q_assign rfl) ?_
    refine GoOps.q (v := .bool false) rfl rfl (by decide) (q_assign rfl) ?_
    refine GoOps.nil ?_
    exact Go.ret ⟨.inl rfl, _, _, DOk.nil, (resOk2 Try.results18 rfl rfl), ⟨_, _, rfl, h⟩⟩
  · have h := h.2 hc3
    refine Go.condF (btF rfl hc3) ?_
    refine Go.skip ?_
    refine Go.seq ?_
    refine Go.region rfl ?_
    refine GoOps.q (v := .pointer p0) rfl rfl (by decide) (q_move rfl) ?_
    refine GoOps.q (v := .pointer p0) rfl rfl (by decide) (q_move rfl) ?_
    obtain ⟨a4, ha5, h⟩ := h
    refine GoOps.q (v := .pointer (some a4)) rfl rfl (by decide) (q_nilCheck (ptn rfl ha5)) ?_
    refine GoOps.q (v := .pointer (some (a4.add 1))) rfl rfl (by decide) (q_fieldAddr foff58_1 rfl) ?_
    obtain ⟨x6, hx7, h⟩ := h
    refine GoOps.q (v := .int .i64 x6) rfl rfl (by decide) (q_load scalar3 rfl hx7) ?_
    refine call_dst rfl (by decide) body28 (window_Window_int_at_s _ _ _ _ h) rfl ?_
    rintro _ H8 ⟨y9, rfl, h⟩
    refine GoOps.q (v := .pointer y9) rfl rfl (by decide) (q_assign rfl) ?_
    refine GoOps.nil ?_
    refine Go.seq ?_
    refine Go.draw mixed ?_
    refine plan_pure (i := 0) (d := 14) (S2 := 1) (v := .pointer y9) rfl (by decide +kernel) rfl (q_move rfl) ?_
    obtain ⟨a10, ha11, h⟩ := h
    refine plan_pure (i := 1) (d := 15) (S2 := 3) (v := .pointer (some a10)) rfl (by decide +kernel) rfl (q_nilCheck (ptn rfl ha11)) ?_
    refine plan_pure (i := 2) (d := 16) (S2 := 7) (v := .pointer (some (a10.add 0))) rfl (by decide +kernel) rfl (q_fieldAddr foff60_0 rfl) ?_
    obtain ⟨x12, hx13, h⟩ := h
    refine plan_load (i := 3) (d := 17) (S2 := 15) (v := .int .i64 x12) rfl (by decide +kernel) rfl (q_load scalar3 rfl hx13) ?_
    refine plan_pure (i := 4) (d := 18) (S2 := 31) (v := .pointer y9) rfl (by decide +kernel) rfl (q_move rfl) ?_
    obtain ⟨a14, ha15, h⟩ := h
    refine plan_pure (i := 5) (d := 19) (S2 := 63) (v := .pointer (some a14)) rfl (by decide +kernel) rfl (q_nilCheck (ptn rfl ha15)) ?_
    refine plan_pure (i := 6) (d := 20) (S2 := 127) (v := .pointer (some (a14.add 1))) rfl (by decide +kernel) rfl (q_fieldAddr foff60_1 rfl) ?_
    obtain ⟨x16, hx17, h⟩ := h
    refine plan_load (i := 7) (d := 21) (S2 := 255) (v := .bool x16) rfl (by decide +kernel) rfl (q_load scalar4 rfl hx17) ?_
    refine plan_pure (i := 8) (d := 2) (S2 := 511) (v := .int .i64 x12) rfl (by decide +kernel) rfl (q_assign rfl) ?_
    refine plan_pure (i := 9) (d := 3) (S2 := 1023) (v := .bool x16) rfl (by decide +kernel) rfl (q_assign rfl) ?_
    refine plan_done (by decide +kernel) ?_
    exact Go.ret ⟨.inl rfl, _, _, DOk.nil, (resOk2 Try.results18 rfl rfl), ⟨_, _, rfl, h⟩⟩

/-- (*keelson.window.Window[int]).Cut -/
def window_Window_int_Cut (p0 : Option Addr) (H : PH) (Q : Bool → PH → Prop) : Prop :=
  window_Window_int_Peek p0 H fun y2 y3 H1 =>
  mJoin (fun (s4 : Unit) (H6 : PH) =>
  Q y3 H6)
  fun j5 =>
  mIf y3
  (mNil p0 fun a9 =>
  mLd (.int .i64) H1 (a9.add 1) fun x11 =>
  window_Window_int_at p0 x11 H1 fun y14 H13 =>
  mNil y14 fun a15 =>
  mSt H13 a15 ([.int .i64 0, .bool false]) fun H17 =>
  j5 () H17)
  (j5 () H1)

set_option maxRecDepth 20000 in
set_option maxHeartbeats 1000000 in
theorem window_Window_int_Cut_s (p0 : Option Addr) (H : PH) (Q : Bool → PH → Prop) (h : window_Window_int_Cut p0 H Q) :
    CallsH Try.prog 21 #[.pointer p0] H (fun v H' => ∃ (r0 : Bool), v = .bool r0 ∧ Q r0 H') := by
  unfold window_Window_int_Cut at h
  refine callsH_of_go Try.func21 rfl Try.ntmps21 (Nat.le_of_ble_eq_true rfl) ?_
  refine Go.seq ?_
  refine Go.region rfl ?_
  refine GoOps.q (v := .bool false) rfl rfl (by decide) (q_assign rfl) ?_
  refine GoOps.nil ?_
  refine Go.seq ?_
  refine Go.region rfl ?_
  refine GoOps.q (v := .pointer p0) rfl rfl (by decide) (q_move rfl) ?_
  refine call_dst rfl (by decide) body18 (window_Window_int_Peek_s _ _ _ h) rfl ?_
  rintro _ H1 ⟨y2, y3, rfl, h⟩
  refine GoOps.q (v := .tuple #[.int .i64 y2, .bool y3]) rfl rfl (by decide) (q_move rfl) ?_
  refine GoOps.q (v := .int .i64 y2) rfl rfl (by decide) (q_extract rfl rfl) ?_
  refine GoOps.q (v := .bool y3) rfl rfl (by decide) (q_extract rfl rfl) ?_
  refine GoOps.q (v := .int .i64 y2) rfl rfl (by decide) (q_assign rfl) ?_
  refine GoOps.q (v := .bool y3) rfl rfl (by decide) (q_assign rfl) ?_
  refine GoOps.nil ?_
  refine Go.seq ?_
  refine Go.seq ?_
  refine Go.region rfl ?_
  refine GoOps.q (v := .bool y3) rfl rfl (by decide) (q_move rfl) ?_
  refine GoOps.nil ?_
  refine join_go 1 (fun ρ (s4 : Unit) => ρ 4 = .bool y3) h ?_ ?_ <;> clear h
  · intro s4 H6 ρ h hE
    have e7_4 := hE
    refine Go.seq ?_
    refine Go.region rfl ?_
    refine GoOps.q (v := .bool y3) rfl rfl (by decide) (q_move e7_4) ?_
    refine GoOps.q (v := .bool y3) rfl rfl (by decide) (q_assign rfl) ?_
    refine GoOps.nil ?_
    exact Go.ret ⟨.inl rfl, _, _, DOk.nil, (resOk1 Try.results21 rfl), ⟨_, rfl, h⟩⟩
  · intro j5 hj5 h
    rcases bor y3 with hc8 | hc8
    · have h := h.1 hc8
      refine Go.condT (btT rfl hc8) ?_
      refine Go.region rfl ?_
      refine GoOps.q (v := .pointer p0) rfl rfl (by decide) (q_move rfl) ?_
      refine GoOps.q (v := .pointer p0) rfl rfl (by decide) (q_move rfl) ?_
      obtain ⟨a9, ha10, h⟩ := h
      refine GoOps.q (v := .pointer (some a9)) rfl rfl (by decide) (q_nilCheck (ptn rfl ha10)) ?_
      refine GoOps.q (v := .pointer (some (a9.add 1))) rfl rfl (by decide) (q_fieldAddr foff58_1 rfl) ?_
      obtain ⟨x11, hx12, h⟩ := h
      refine GoOps.q (v := .int .i64 x11) rfl rfl (by decide) (q_load scalar3 rfl hx12) ?_
      refine call_dst rfl (by decide) body28 (window_Window_int_at_s _ _ _ _ h) rfl ?_
      rintro _ H13 ⟨y14, rfl, h⟩
      refine GoOps.q (v := .agg ([.int .i64 0, .bool false] : List Value).toArray) rfl rfl (by decide) (q_build (ps := []) (cs := [.int .i64 0, .bool false]) places60 zero60 rfl rfl rfl) ?_
      obtain ⟨a15, ha16, h⟩ := h
      refine GoOps.q (v := .pointer (some a15)) rfl rfl (by decide) (q_nilCheck (ptn rfl ha16)) ?_
      obtain ⟨q18b, q18o, q18c, q18e, hq18a, hq18b, hq18l, hq18v, h⟩ := h
      refine op_none rfl rfl (do_store (vs := [.int .i64 0, .bool false]) size60 (pta rfl hq18a) rfl rfl rfl hq18v hq18b hq18l ?_) 
      refine GoOps.nil ?_
      exact hj5 _ _ _ h rfl
    · have h := h.2 hc8
      refine Go.condF (btF rfl hc8) ?_
      refine Go.skip ?_
      exact hj5 _ _ _ h rfl

/-- (*keelson.window.Window[int]).Pop -/
def window_Window_int_Pop (p0 : Option Addr) (H : PH) (Q : Int → Bool → PH → Prop) : Prop :=
  window_Window_int_Peek p0 H fun y2 y3 H1 =>
  window_Window_int_Cut p0 H1 fun y5 H4 =>
  mJoin (fun (s6 : Unit) (H8 : PH) =>
  Q y2 y3 H8)
  fun j7 =>
  mIf y5
  (mNil p0 fun a11 =>
  mLd (.int .i64) H4 (a11.add 1) fun x13 =>
  mNil p0 fun a15 =>
  mSt H4 (a15.add 1) ([.int .i64 (IntKind.wrap .i64 (x13 + 1))]) fun H17 =>
  j7 () H17)
  (j7 () H4)

set_option maxRecDepth 20000 in
set_option maxHeartbeats 1000000 in
theorem window_Window_int_Pop_s (p0 : Option Addr) (H : PH) (Q : Int → Bool → PH → Prop) (h : window_Window_int_Pop p0 H Q) :
    CallsH Try.prog 11 #[.pointer p0] H (fun v H' => ∃ (r0 : Int) (r1 : Bool), v = .tuple #[.int .i64 r0, .bool r1] ∧ Q r0 r1 H') := by
  unfold window_Window_int_Pop at h
  refine callsH_of_go Try.func11 rfl Try.ntmps11 (Nat.le_of_ble_eq_true rfl) ?_
  refine Go.seq ?_
  refine Go.region rfl ?_
  refine GoOps.q (v := .int .i64 0) rfl rfl (by decide) (q_assign rfl) ?_
  refine GoOps.q (v := .bool false) rfl rfl (by decide) (q_assign rfl) ?_
  refine GoOps.nil ?_
  refine Go.seq ?_
  refine Go.region rfl ?_
  refine GoOps.q (v := .pointer p0) rfl rfl (by decide) (q_move rfl) ?_
  refine call_dst rfl (by decide) body18 (window_Window_int_Peek_s _ _ _ h) rfl ?_
  rintro _ H1 ⟨y2, y3, rfl, h⟩
  refine GoOps.q (v := .tuple #[.int .i64 y2, .bool y3]) rfl rfl (by decide) (q_move rfl) ?_
  refine GoOps.q (v := .int .i64 y2) rfl rfl (by decide) (q_extract rfl rfl) ?_
  refine GoOps.q (v := .bool y3) rfl rfl (by decide) (q_extract rfl rfl) ?_
  refine GoOps.q (v := .int .i64 y2) rfl rfl (by decide) (q_assign rfl) ?_
  refine GoOps.q (v := .bool y3) rfl rfl (by decide) (q_assign rfl) ?_
  refine GoOps.nil ?_
  refine Go.seq ?_
  refine Go.seq ?_
  refine Go.region rfl ?_
  refine GoOps.q (v := .pointer p0) rfl rfl (by decide) (q_move rfl) ?_
  refine call_dst rfl (by decide) body21 (window_Window_int_Cut_s _ _ _ h) rfl ?_
  rintro _ H4 ⟨y5, rfl, h⟩
  refine GoOps.nil ?_
  refine join_go 1 (fun ρ (s6 : Unit) => ρ 4 = .int .i64 y2 ∧ ρ 5 = .bool y3) h ?_ ?_ <;> clear h
  · intro s6 H8 ρ h hE
    obtain ⟨e9_4, e9_5⟩ := hE
    refine Go.seq ?_
    refine Go.region rfl ?_
    refine GoOps.q (v := .int .i64 y2) rfl rfl (by decide) (q_move e9_4) ?_
    refine GoOps.q (v := .bool y3) rfl rfl (by decide) (q_move e9_5) ?_
    refine GoOps.q (v := .int .i64 y2) rfl rfl (by decide) (q_assign rfl) ?_
    refine GoOps.q (v := .bool y3) rfl rfl (by decide) (q_assign rfl) ?_
    refine GoOps.nil ?_
    exact Go.ret ⟨.inl rfl, _, _, DOk.nil, (resOk2 Try.results11 rfl rfl), ⟨_, _, rfl, h⟩⟩
  · intro j7 hj7 h
    rcases bor y5 with hc10 | hc10
    · have h := h.1 hc10
      refine Go.condT (btT rfl hc10) ?_
      refine Go.region rfl ?_
      refine GoOps.q (v := .pointer p0) rfl rfl (by decide) (q_move rfl) ?_
      obtain ⟨a11, ha12, h⟩ := h
      refine GoOps.q (v := .pointer (some a11)) rfl rfl (by decide) (q_nilCheck (ptn rfl ha12)) ?_
      refine GoOps.q (v := .pointer (some (a11.add 1))) rfl rfl (by decide) (q_fieldAddr foff58_1 rfl) ?_
      obtain ⟨x13, hx14, h⟩ := h
      refine GoOps.q (v := .int .i64 x13) rfl rfl (by decide) (q_load scalar3 rfl hx14) ?_
      refine GoOps.q (v := .int .i64 (IntKind.wrap .i64 (x13 + 1))) rfl rfl (by decide) (q_add rfl rfl) ?_
      obtain ⟨a15, ha16, h⟩ := h
      refine GoOps.q (v := .pointer (some a15)) rfl rfl (by decide) (q_nilCheck (ptn rfl ha16)) ?_
      refine GoOps.q (v := .pointer (some (a15.add 1))) rfl rfl (by decide) (q_fieldAddr foff58_1 rfl) ?_
      obtain ⟨q18b, q18o, q18c, q18e, hq18a, hq18b, hq18l, hq18v, h⟩ := h
      refine op_none rfl rfl (do_store (vs := [.int .i64 (IntKind.wrap .i64 (x13 + 1))]) size3 (pta rfl hq18a) rfl rfl rfl hq18v hq18b hq18l ?_) 
      refine GoOps.nil ?_
      exact hj7 _ _ _ h ⟨rfl, rfl⟩
    · have h := h.2 hc10
      refine Go.condF (btF rfl hc10) ?_
      refine Go.skip ?_
      exact hj7 _ _ _ h ⟨rfl, rfl⟩

/-- (*keelson.window.Window[int]).All$1 -/
def window_Window_int_All_c1 {γ : Type} (c0 : Addr) (Y : List Value → γ → PH → (Nat → γ → PH → Prop) → Prop) (g : γ) (H : PH) (Q : Nat → γ → PH → Prop) : Prop :=
  mLd .pointer H c0 fun x1 =>
  window_Window_int_none x1 H fun y4 H3 =>
  mIf y4
  (Q (0, g).1 (0, g).2 H3)
  (mLd .pointer H3 c0 fun x6 =>
  mNil x6 fun a8 =>
  mLd (.int .i64) H3 (a8.add 1) fun x10 =>
  mLoop (fun (s12 : Int × (Nat × γ)) (H15 : PH) (again13 : (Int × (Nat × γ)) → PH → Prop) =>
  mLd .pointer H15 c0 fun x16 =>
  mNil x16 fun a18 =>
  mLd (.int .i64) H15 (a18.add 1) fun x20 =>
  mLd .pointer H15 c0 fun x22 =>
  mNil x22 fun a24 =>
  mLd Sl.v H15 (a24.add 0) fun x26 =>
  mIf (decide (s12.1 < (IntKind.wrap .i64 (x20 + (x26.len : Int)))))
  (mLd .pointer H15 c0 fun x29 =>
  window_Window_int_at x29 s12.1 H15 fun y32 H31 =>
  mNil y32 fun a33 =>
  mLd .bool H31 (a33.add 1) fun x35 =>
  mJoin (fun (s38 : Bool × (Nat × γ)) (H40 : PH) =>
  mIf s38.1
  (Q s38.2.1 s38.2.2 H40)
  (again13 (IntKind.wrap .i64 (s12.1 + 1), s38.2) H40))
  fun j39 =>
  mIf x35
  (mNil y32 fun a43 =>
  mLd (.int .i64) H31 (a43.add 0) fun x45 =>
  mYield Y s12.2 [.int .i64 s12.1, .int .i64 x45] H31 fun q47 H48 =>
  j39 (!(q47.1 == 0), q47) H48)
  (j39 (false, s12.2) H31))
  (Q s12.2.1 s12.2.2 H15))
  (x10, (0, g)) H3)

set_option maxRecDepth 20000 in
set_option maxHeartbeats 1000000 in
theorem window_Window_int_All_c1_s {γ : Type} (c0 : Addr) (Y : List Value → γ → PH → (Nat → γ → PH → Prop) → Prop) (g : γ) (H : PH) (Q : Nat → γ → PH → Prop) (h : window_Window_int_All_c1 c0 Y g H Q) :
    IterH Try.prog (.func (.func 32) #[] #[.pointer (some c0)]) Y g H Q := by
  unfold window_Window_int_All_c1 at h
  refine iterH_of_goM (fi := []) (ca := [.pointer (some c0)]) body32 Try.func32 rfl Try.ntmps32 (Nat.le_of_ble_eq_true rfl) fun l Tk hd hy => ?_
  generalize hyv : Value.func (.yield l) #[] #[] = yv
  intro D M hM hB hA
  refine Go.seq ?_
  refine Go.seq ?_
  refine Go.region rfl ?_
  obtain ⟨x1, hx2, h⟩ := h
  refine GoOps.q (v := .pointer x1) rfl rfl (by decide) (q_load scalar24 rfl hx2) ?_
  refine call_dst rfl (by decide) body27 (window_Window_int_none_s _ _ _ h) rfl ?_
  rintro _ H3 ⟨y4, rfl, h⟩
  refine GoOps.nil ?_
  rcases bor y4 with hc5 | hc5
  · have h := h.1 hc5
    refine Go.condT (btT rfl hc5) ?_
    exact Go.retM (g := (0, g)) hM hB hA ⟨.inl rfl, _, (resOk0 Try.results32), h⟩
  · have h := h.2 hc5
    refine Go.condF (btF rfl hc5) ?_
    refine Go.skip ?_
    refine Go.seq ?_
    refine Go.region rfl ?_
    obtain ⟨x6, hx7, h⟩ := h
    refine GoOps.q (v := .pointer x6) rfl rfl (by decide) (q_load scalar24 rfl hx7) ?_
    obtain ⟨a8, ha9, h⟩ := h
    refine GoOps.q (v := .pointer (some a8)) rfl rfl (by decide) (q_nilCheck (ptn rfl ha9)) ?_
    refine GoOps.q (v := .pointer (some (a8.add 1))) rfl rfl (by decide) (q_fieldAddr foff58_1 rfl) ?_
    obtain ⟨x10, hx11, h⟩ := h
    refine GoOps.q (v := .int .i64 x10) rfl rfl (by decide) (q_load scalar3 rfl hx11) ?_
    refine GoOps.q (v := .int .i64 x10) rfl rfl (by decide) (q_assign rfl) ?_
    refine GoOps.nil ?_
    refine Go.block ?_
    refine loop_goM (g := (0, g)) (fun s12 => s12.2) (fun ρ (s12 : Int × (Nat × γ)) => ρ 0 = yv ∧ ρ 1 = .pointer (some c0) ∧ ρ 3 = .int .i64 s12.1) hM hB hA h ⟨rfl, rfl, rfl⟩ rfl ?_
    clear h
    intro ρ s12 H15 again13 hE h hagain13
    obtain ⟨e14_0, e14_1, e14_3⟩ := hE
    intro D M hM hB hA
    refine Go.seq ?_
    refine Go.seq ?_
    refine Go.draw mixed ?_
    refine plan_pure (i := 0) (d := 11) (S2 := 1) (v := .int .i64 s12.1) rfl (by decide +kernel) rfl (q_move e14_3) ?_
    obtain ⟨x16, hx17, h⟩ := h
    refine plan_load (i := 1) (d := 12) (S2 := 3) (v := .pointer x16) rfl (by decide +kernel) rfl (q_load scalar24 e14_1 hx17) ?_
    obtain ⟨a18, ha19, h⟩ := h
    refine plan_pure (i := 2) (d := 13) (S2 := 7) (v := .pointer (some a18)) rfl (by decide +kernel) rfl (q_nilCheck (ptn rfl ha19)) ?_
    refine plan_pure (i := 3) (d := 14) (S2 := 15) (v := .pointer (some (a18.add 1))) rfl (by decide +kernel) rfl (q_fieldAddr foff58_1 rfl) ?_
    obtain ⟨x20, hx21, h⟩ := h
    refine plan_load (i := 4) (d := 15) (S2 := 31) (v := .int .i64 x20) rfl (by decide +kernel) rfl (q_load scalar3 rfl hx21) ?_
    obtain ⟨x22, hx23, h⟩ := h
    refine plan_load (i := 5) (d := 16) (S2 := 63) (v := .pointer x22) rfl (by decide +kernel) rfl (q_load scalar24 e14_1 hx23) ?_
    obtain ⟨a24, ha25, h⟩ := h
    refine plan_pure (i := 6) (d := 17) (S2 := 127) (v := .pointer (some a24)) rfl (by decide +kernel) rfl (q_nilCheck (ptn rfl ha25)) ?_
    refine plan_pure (i := 7) (d := 18) (S2 := 255) (v := .pointer (some (a24.add 0))) rfl (by decide +kernel) rfl (q_fieldAddr foff58_0 rfl) ?_
    obtain ⟨x26, hx27, h⟩ := h
    refine plan_load (i := 8) (d := 19) (S2 := 511) (v := Sl.v x26) rfl (by decide +kernel) rfl (q_load scalar56 rfl hx27) ?_
    refine plan_pure (i := 9) (d := 20) (S2 := 1023) (v := .int .i64 (x26.len : Int)) rfl (by decide +kernel) rfl (q_len Try.underlying56 rfl (ls1 rfl)) ?_
    refine plan_pure (i := 10) (d := 21) (S2 := 2047) (v := .int .i64 (IntKind.wrap .i64 (x20 + (x26.len : Int)))) rfl (by decide +kernel) rfl (q_add rfl rfl) ?_
    refine plan_pure (i := 11) (d := 22) (S2 := 4095) (v := .bool (decide (s12.1 < (IntKind.wrap .i64 (x20 + (x26.len : Int)))))) rfl (by decide +kernel) rfl (q_lss rfl rfl) ?_
    refine plan_done (by decide +kernel) ?_
    rcases bor (decide (s12.1 < (IntKind.wrap .i64 (x20 + (x26.len : Int))))) with hc28 | hc28
    · have h := h.1 hc28
      refine Go.condT (btT rfl hc28) ?_
      refine Go.skip ?_
      refine Go.seq ?_
      refine Go.block ?_
      refine Go.seq ?_
      refine Go.region rfl ?_
      obtain ⟨x29, hx30, h⟩ := h
      refine GoOps.q (v := .pointer x29) rfl rfl (by decide) (q_load scalar24 e14_1 hx30) ?_
      refine GoOps.q (v := .int .i64 s12.1) rfl rfl (by decide) (q_move e14_3) ?_
      refine call_dst rfl (by decide) body28 (window_Window_int_at_s _ _ _ _ h) rfl ?_
      rintro _ H31 ⟨y32, rfl, h⟩
      refine GoOps.q (v := .pointer y32) rfl rfl (by decide) (q_assign rfl) ?_
      refine GoOps.nil ?_
      refine Go.seq ?_
      refine Go.region rfl ?_
      refine GoOps.q (v := .pointer y32) rfl rfl (by decide) (q_move rfl) ?_
      obtain ⟨a33, ha34, h⟩ := h
      refine GoOps.q (v := .pointer (some a33)) rfl rfl (by decide) (q_nilCheck (ptn rfl ha34)) ?_
      refine GoOps.q (v := .pointer (some (a33.add 1))) rfl rfl (by decide) (q_fieldAddr foff60_1 rfl) ?_
      obtain ⟨x35, hx36, h⟩ := h
      refine GoOps.q (v := .bool x35) rfl rfl (by decide) (q_load scalar4 rfl hx36) ?_
      refine GoOps.q (v := .bool x35) rfl rfl (by decide) (q_move rfl) ?_
      refine join_opsM (TT := fun q : Nat × γ => Tk q.1 q.2) (M := M) 9 (fun s38 => s38.2) (fun ρ (s38 : Bool × (Nat × γ)) => ρ 0 = yv ∧ ρ 1 = .pointer (some c0) ∧ ρ 3 = .int .i64 s12.1 ∧ ρ 41 = .bool s38.1) h ?_ ?_ <;> clear h
      · intro s38 H40 ρ h hE
        obtain ⟨e41_0, e41_1, e41_3, e41_41⟩ := hE
        refine GoOps.nil ?_
        rcases bor s38.1 with hc42 | hc42
        · have h := h.1 hc42
          refine Go.condT (btT e41_41 hc42) ?_
          exact Go.retM (g := s38.2) hM hB hA ⟨.inl rfl, _, (resOk0 Try.results32), h⟩
        · have h := h.2 hc42
          refine Go.condF (btF e41_41 hc42) ?_
          refine Go.skip ?_
          refine Go.inBlock ?_
          refine Go.region rfl ?_
          refine GoOps.q (v := .int .i64 s12.1) rfl rfl (by decide) (q_move e41_3) ?_
          refine GoOps.q (v := .int .i64 (IntKind.wrap .i64 (s12.1 + 1))) rfl rfl (by decide) (q_add rfl rfl) ?_
          refine GoOps.q (v := .int .i64 (IntKind.wrap .i64 (s12.1 + 1))) rfl rfl (by decide) (q_assign rfl) ?_
          refine GoOps.nil ?_
          exact hagain13 (IntKind.wrap .i64 (s12.1 + 1), s38.2) _ _ h (by exact ⟨e41_0, e41_1, rfl⟩) _ _ hM hB hA
      · intro j39 hj39 h
        rcases bor x35 with hc37 | hc37
        · have h := h.1 hc37
          refine GoOps.q (v := yv) (want_yes rfl rfl rfl hc37) rfl (by decide) (q_move e14_0) ?_
          refine GoOps.q (v := .int .i64 s12.1) (want_yes rfl rfl rfl hc37) rfl (by decide) (q_move e14_3) ?_
          refine GoOps.q (v := .pointer y32) (want_yes rfl rfl rfl hc37) rfl (by decide) (q_move rfl) ?_
          obtain ⟨a43, ha44, h⟩ := h
          refine GoOps.q (v := .pointer (some a43)) (want_yes rfl rfl rfl hc37) rfl (by decide) (q_nilCheck (ptn rfl ha44)) ?_
          refine GoOps.q (v := .pointer (some (a43.add 0))) (want_yes rfl rfl rfl hc37) rfl (by decide) (q_fieldAddr foff60_0 rfl) ?_
          obtain ⟨x45, hx46, h⟩ := h
          refine GoOps.q (v := .int .i64 x45) (want_yes rfl rfl rfl hc37) rfl (by decide) (q_load scalar3 rfl hx46) ?_
          refine op_dst (want_yes rfl rfl rfl hc37) rfl (by decide) (do_yieldP (q := s12.2) hy hA (Eq.trans rfl hyv.symm) rfl h fun q47 H48 h => ?_) 
          refine GoOps.q (v := .bool (!(q47.1 == 0))) (want_yes rfl rfl rfl hc37) rfl (by decide) (q_not rfl) ?_
          refine GoOps.q (v := .bool (!(q47.1 == 0))) rfl rfl (by decide) (q_pickT (btT rfl hc37) rfl) ?_
          exact hj39 (!(q47.1 == 0), q47) _ _ h (by exact ⟨e14_0, e14_1, e14_3, rfl⟩)
        · have h := h.2 hc37
          refine no_dst (want_no rfl rfl rfl hc37) rfl (by decide) ?_
          refine no_dst (want_no rfl rfl rfl hc37) rfl (by decide) ?_
          refine no_dst (want_no rfl rfl rfl hc37) rfl (by decide) ?_
          refine no_dst (want_no rfl rfl rfl hc37) rfl (by decide) ?_
          refine no_dst (want_no rfl rfl rfl hc37) rfl (by decide) ?_
          refine no_dst (want_no rfl rfl rfl hc37) rfl (by decide) ?_
          refine no_dst (want_no rfl rfl rfl hc37) rfl (by decide) ?_
          refine no_dst (want_no rfl rfl rfl hc37) rfl (by decide) ?_
          refine GoOps.q (v := .bool false) rfl rfl (by decide) (q_pickF (btF rfl hc37) rfl) ?_
          exact hj39 (false, s12.2) _ _ h (by exact ⟨e14_0, e14_1, e14_3, rfl⟩)
    · have h := h.2 hc28
      refine Go.condF (btF rfl hc28) ?_
      refine Go.exit rfl ?_
      exact Go.fallM (g := s12.2) hM hB hA ⟨.inr rfl, _, (resOk0 Try.results32), h⟩

/-- (*keelson.window.Window[int]).All -/
def window_Window_int_All (p0 : Option Addr) (H : PH) (Q : Value → PH → Prop) : Prop :=
  mNew H (row [.pointer p0] 24) fun a1 H2 =>
  Q (.func (.func 32) #[] #[.pointer (some a1)]) H2

set_option maxRecDepth 20000 in
set_option maxHeartbeats 1000000 in
theorem window_Window_int_All_s (p0 : Option Addr) (H : PH) (Q : Value → PH → Prop) (h : window_Window_int_All p0 H Q) :
    CallsH Try.prog 29 #[.pointer p0] H (fun v H' => ∃ (r0 : Value), v = r0 ∧ Q r0 H') := by
  unfold window_Window_int_All at h
  refine callsH_of_go Try.func29 rfl Try.ntmps29 (Nat.le_of_ble_eq_true rfl) ?_
  refine Go.seq ?_
  refine Go.region rfl ?_
  refine op_dst rfl rfl (by decide) (do_newBox (cs := [.pointer p0]) rfl rfl fun a1 H2 hb3 => ?_) 
  have h := h a1 H2 hb3
  refine GoOps.q (v := .nilFunc) rfl rfl (by decide) (q_assign rfl) ?_
  refine GoOps.nil ?_
  refine Go.seq ?_
  refine Go.region rfl ?_
  refine GoOps.q (v := (.func (.func 32) #[] #[.pointer (some a1)])) rfl rfl (by decide) (q_makeFunc rfl rfl) ?_
  refine GoOps.q (v := (.func (.func 32) #[] #[.pointer (some a1)])) rfl rfl (by decide) (q_assign rfl) ?_
  refine GoOps.nil ?_
  exact Go.ret ⟨.inl rfl, _, _, DOk.nil, (resOk1 Try.results29 rfl), ⟨_, rfl, h⟩⟩

/-- keelson.keelsonlaw23.all -/
def keelsonlaw23_all (p0 : Option Addr) (p1 : Int) (H : PH) (Q : Sl → Sl → PH → Prop) : Prop :=
  mNew H (row [.int .i64 p1] 3) fun a1 H2 =>
  window_Window_int_All p0 H2 fun y5 H4 =>
  mBoth (IsFn y5) <|
  mIf (fisNil y5)
  (Q Sl.nil Sl.nil H4)
  (mNew H4 (row [.slice none 0 0] 22) fun a8 H9 =>
  mNew H9 (row [.slice none 0 0] 22) fun a11 H12 =>
  mJoin (fun (s14 : Unit) (H16 : PH) =>
  mLd Sl.v H16 a8 fun x18 =>
  mLd Sl.v H16 a11 fun x20 =>
  Q x18 x20 H16)
  fun j15 =>
  IterH Try.prog y5 (fun (vs22 : List Value) (q23 : Unit) (H24 : PH) (y25 : Nat → Unit → PH → Prop) =>
  ∃ (x26 : Int) (x27 : Int), vs22 = [.int .i64 x26, .int .i64 x27] ∧
  mLd Sl.v H24 a8 fun x28 =>
  mLd (.int .i64) H24 a1 fun x30 =>
  mIf (decide (x30 ≤ (x28.len : Int)))
  (y25 1 () H24)
  (mLd Sl.v H24 a8 fun x33 =>
  mLd Sl.v H24 a11 fun x35 =>
  mNewS H24 (row [.int .i64 x26] 3) 1 fun r37 H38 =>
  mSame H38 a11 (Sl.v x35) <|
  mSame H38 a8 (Sl.v x33) <|
  mApp H38 3 1 8 [.int .i64 0] x33 r37 fun r42 H43 =>
  mSame H43 a11 (Sl.v x35) <|
  mNewS H43 (row [.int .i64 x27] 3) 1 fun r45 H46 =>
  mSame H46 a11 (Sl.v x35) <|
  mApp H46 3 1 8 [.int .i64 0] x35 r45 fun r49 H50 =>
  mSt H50 a8 ([Sl.v r42]) fun H51 =>
  mSt H51 a11 ([Sl.v r49]) fun H53 =>
  y25 0 () H53)) () H12 fun j94 q95 H96 =>
  mIf (j94 == 1)
  (j15 () H96)
  (j15 () H96))

set_option maxRecDepth 20000 in
set_option maxHeartbeats 1000000 in
theorem keelsonlaw23_all_s (p0 : Option Addr) (p1 : Int) (H : PH) (Q : Sl → Sl → PH → Prop) (h : keelsonlaw23_all p0 p1 H Q) :
    CallsH Try.prog 13 #[.pointer p0, .int .i64 p1] H (fun v H' => ∃ (r0 : Sl) (r1 : Sl), v = .tuple #[Sl.v r0, Sl.v r1] ∧ Q r0 r1 H') := by
  unfold keelsonlaw23_all at h
  refine callsH_of_goM Try.func13 rfl Try.ntmps13 (Nat.le_of_ble_eq_true rfl) ?_
  intro D M hM hB hA
  refine Go.seq ?_
  refine Go.region rfl ?_
  refine op_dst rfl rfl (by decide) (do_newBox (cs := [.int .i64 p1]) rfl rfl fun a1 H2 hb3 => ?_) 
  have h := h a1 H2 hb3
  refine GoOps.q (v := Sl.v Sl.nil) rfl rfl (by decide) (q_assign rfl) ?_
  refine GoOps.q (v := Sl.v Sl.nil) rfl rfl (by decide) (q_assign rfl) ?_
  refine GoOps.nil ?_
  refine Go.seq ?_
  refine Go.region rfl ?_
  refine GoOps.q (v := .pointer p0) rfl rfl (by decide) (q_move rfl) ?_
  refine call_dst rfl (by decide) body29 (window_Window_int_All_s _ _ _ h) rfl ?_
  rintro y5 H4 ⟨_, rfl, h⟩
  refine GoOps.q (v := y5) rfl rfl (by decide) (q_assign rfl) ?_
  refine GoOps.nil ?_
  refine Go.seq ?_
  refine Go.seq ?_
  refine Go.region rfl ?_
  refine GoOps.q (v := y5) rfl rfl (by decide) (q_move rfl) ?_
  obtain ⟨hf6, h⟩ := h
  refine GoOps.q (v := .bool (fisNil y5)) rfl rfl (by decide) (q_eqlFv Try.underlying64 rfl rfl hf6) ?_
  refine GoOps.nil ?_
  rcases bor (fisNil y5) with hc7 | hc7
  · have h := h.1 hc7
    refine Go.condT (btT rfl hc7) ?_
    refine Go.seq ?_
    refine Go.region rfl ?_
    refine GoOps.q (v := Sl.v Sl.nil) rfl rfl (by decide) (q_assign rfl) ?_
    refine GoOps.q (v := Sl.v Sl.nil) rfl rfl (by decide) (q_assign rfl) ?_
    refine GoOps.nil ?_
    exact Go.retM (g := ()) hM hB hA ⟨.inl rfl, _, (resOk2 Try.results13 rfl rfl), ⟨_, _, rfl, h⟩⟩
  · have h := h.2 hc7
    refine Go.condF (btF rfl hc7) ?_
    refine Go.skip ?_
    refine Go.seq ?_
    refine Go.region rfl ?_
    refine op_dst rfl rfl (by decide) (do_new zero22 rfl fun a8 H9 hb10 => ?_) 
    have h := h a8 H9 hb10
    refine op_dst rfl rfl (by decide) (do_new zero22 rfl fun a11 H12 hb13 => ?_) 
    have h := h a11 H12 hb13
    refine GoOps.nil ?_
    refine Go.seq ?_
    refine Go.seq ?_
    refine Go.region rfl ?_
    refine GoOps.q (v := y5) rfl rfl (by decide) (q_move rfl) ?_
    refine GoOps.nil ?_
    refine join_goM 1 (fun _ => ()) (fun ρ (s14 : Unit) => ρ 7 = .pointer (some a8) ∧ ρ 8 = .pointer (some a11)) hB h ?_ ?_ <;> clear h
    · intro s14 H16 ρ h hE
      obtain ⟨e17_7, e17_8⟩ := hE
      intro D M hM hB hA
      refine Go.seq ?_
      refine Go.draw mixed ?_
      obtain ⟨x18, hx19, h⟩ := h
      refine plan_load (i := 0) (d := 30) (S2 := 1) (v := Sl.v x18) rfl (by decide +kernel) rfl (q_load scalar22 e17_7 hx19) ?_
      obtain ⟨x20, hx21, h⟩ := h
      refine plan_load (i := 1) (d := 31) (S2 := 3) (v := Sl.v x20) rfl (by decide +kernel) rfl (q_load scalar22 e17_8 hx21) ?_
      refine plan_pure (i := 2) (d := 4) (S2 := 7) (v := Sl.v x18) rfl (by decide +kernel) rfl (q_assign rfl) ?_
      refine plan_pure (i := 3) (d := 5) (S2 := 15) (v := Sl.v x20) rfl (by decide +kernel) rfl (q_assign rfl) ?_
      refine plan_done (by decide +kernel) ?_
      exact Go.retM (g := ()) hM hB hA ⟨.inl rfl, _, (resOk2 Try.results13 rfl rfl), ⟨_, _, rfl, h⟩⟩
    · intro j15 hj15 h
      refine Go.block ?_
      refine go_range1 (g := ()) (c1 := .exit 0) h rfl (fun _ _ _ h => h) rfl hM hB hA trivial ?_ ?_ ?_ <;> clear h
      · rintro _ q23 H24 y25 ⟨x26, x27, rfl, h⟩
        refine ⟨rfl, fun lp Bx r hr => ?_⟩
        clear hM hB hA
        intro D M hM hB hA
        refine Go.seq ?_
        refine Go.region rfl ?_
        refine GoOps.q (v := .int .i64 x26) rfl rfl (by decide) (q_assign rfl) ?_
        refine GoOps.nil ?_
        refine Go.region rfl ?_
        refine GoOps.q (v := .int .i64 x27) rfl rfl (by decide) (q_assign rfl) ?_
        refine GoOps.nil ?_
        refine go_begin (g := ()) hr hB hA fun M hB hA => ?_
        have hM : Mk (some lp) D M := trivial
        refine Go.block ?_
        refine Go.seq ?_
        refine Go.seq ?_
        refine Go.region rfl ?_
        obtain ⟨x28, hx29, h⟩ := h
        refine GoOps.q (v := Sl.v x28) rfl rfl (by decide) (q_load scalar22 rfl hx29) ?_
        refine GoOps.q (v := .int .i64 (x28.len : Int)) rfl rfl (by decide) (q_len Try.underlying22 rfl (ls1 rfl)) ?_
        obtain ⟨x30, hx31, h⟩ := h
        refine GoOps.q (v := .int .i64 x30) rfl rfl (by decide) (q_load scalar3 rfl hx31) ?_
        refine GoOps.q (v := .bool (decide (x30 ≤ (x28.len : Int)))) rfl rfl (by decide) (q_geq rfl rfl) ?_
        refine GoOps.nil ?_
        rcases bor (decide (x30 ≤ (x28.len : Int))) with hc32 | hc32
        · have h := h.1 hc32
          refine Go.condT (btT rfl hc32) ?_
          exact Go.exitM (g := ()) rfl hM hB hA ⟨1, ⟨0, rfl, rfl⟩, h⟩
        · have h := h.2 hc32
          refine Go.condF (btF rfl hc32) ?_
          refine Go.skip ?_
          refine Go.draw mixed ?_
          obtain ⟨x33, hx34, h⟩ := h
          refine plan_load (i := 0) (d := 22) (S2 := 1) (v := Sl.v x33) rfl (by decide +kernel) rfl (q_load scalar22 rfl hx34) ?_
          refine plan_pure (i := 1) (d := 23) (S2 := 3) (v := .int .i64 x26) rfl (by decide +kernel) rfl (q_move rfl) ?_
          obtain ⟨x35, hx36, h⟩ := h
          refine plan_load (i := 4) (d := 26) (S2 := 19) (v := Sl.v x35) rfl (by decide +kernel) rfl (q_load scalar22 rfl hx36) ?_
          refine plan_pure (i := 5) (d := 27) (S2 := 51) (v := .int .i64 x27) rfl (by decide +kernel) rfl (q_move rfl) ?_
          refine plan_step (R := [2, 6]) (by decide +kernel) ⟨?_, ?_, trivial⟩
          · refine pstep_yes (S2 := 55) rfl (by decide +kernel) (by decide) rfl ?_
            refine do_bs (ps := [(0, .int .i64 x26)]) (zs := [.int .i64 0]) (cs := [.int .i64 x26]) slice22 zero3 rfl rfl (by decide) (by decide) rfl rfl fun r37 H38 hb39 => ?_
            have h := h r37 H38 hb39
            obtain ⟨hr40, h⟩ := h
            obtain ⟨hr41, h⟩ := h
            refine ⟨_, (.inr ⟨⟨_, _, rfl, rfl, q_load scalar22 rfl hr40⟩, _, rfl, .inr ⟨⟨_, _, rfl, rfl, q_load scalar22 rfl hr41⟩, _, rfl, rfl⟩⟩), ?_⟩
            refine plan_step (R := [3, 6]) (by decide +kernel) ⟨?_, ?_, trivial⟩
            · refine pstep_yes (S2 := 63) rfl (by decide +kernel) (by decide) rfl ?_
              refine do_append (zs := [.int .i64 0]) slice22 bytes3 (by decide) zero3 rfl rfl (by decide) rfl rfl Try.underlying22 rfl h fun r42 H43 h => ?_
              obtain ⟨hr44, h⟩ := h
              refine ⟨_, (.inr ⟨⟨_, _, rfl, rfl, q_load scalar22 rfl hr44⟩, _, rfl, .inl ⟨⟨[3], by decide +kernel, rfl⟩, rfl⟩⟩), ?_⟩
              refine plan_one (j := 6) (S2 := 127) (by decide +kernel) rfl (by decide) rfl ?_
              refine do_bs (ps := [(0, .int .i64 x27)]) (zs := [.int .i64 0]) (cs := [.int .i64 x27]) slice22 zero3 rfl rfl (by decide) (by decide) rfl rfl fun r45 H46 hb47 => ?_
              have h := h r45 H46 hb47
              obtain ⟨hr48, h⟩ := h
              refine ⟨_, (.inr ⟨⟨_, _, rfl, rfl, q_load scalar22 rfl hr48⟩, _, rfl, rfl⟩), ?_⟩
              refine plan_one (j := 7) (S2 := 255) (by decide +kernel) rfl (by decide) rfl ?_
              refine do_append (zs := [.int .i64 0]) slice22 bytes3 (by decide) zero3 rfl rfl (by decide) rfl rfl Try.underlying22 rfl h fun r49 H50 h => ?_
              refine ⟨_, (.inl ⟨⟨[7], by decide +kernel, rfl⟩, rfl⟩), ?_⟩
              refine plan_one (j := 8) (S2 := 511) (by decide +kernel) rfl (by decide) rfl ?_
              obtain ⟨q52b, q52o, q52c, q52e, hq52a, hq52b, hq52l, hq52v, h⟩ := h
              refine do_store (vs := [Sl.v r42]) size22 (pta rfl hq52a) rfl rfl rfl hq52v hq52b hq52l ?_
              refine ⟨_, rfl, ?_⟩
              refine plan_one (j := 9) (S2 := 1023) (by decide +kernel) rfl (by decide) rfl ?_
              obtain ⟨q54b, q54o, q54c, q54e, hq54a, hq54b, hq54l, hq54v, h⟩ := h
              refine do_store (vs := [Sl.v r49]) size22 (pta rfl hq54a) rfl rfl rfl hq54v hq54b hq54l ?_
              refine ⟨_, rfl, ?_⟩
              refine plan_done (by decide +kernel) ?_
              refine Go.inBlock ?_
              exact Go.fallM (g := ()) hM hB hA ⟨0, rfl, h⟩
            · refine pstep_yes (S2 := 119) rfl (by decide +kernel) (by decide) rfl ?_
              refine do_bsT (ps := [(0, .int .i64 x27)]) (zs := [.int .i64 0]) (cs := [.int .i64 x27]) slice22 zero3 rfl rfl (by decide) (by decide) rfl rfl fun b59 r58 hHb59 hTb59 hrb59 => ?_
              refine ⟨_, (.inr ⟨⟨_, _, rfl, rfl, q_load scalar22 rfl hr40⟩, _, rfl, .inr ⟨⟨_, _, rfl, rfl, q_load scalar22 rfl hr41⟩, _, rfl, rfl⟩⟩), ?_⟩
              refine plan_one (j := 3) (S2 := 127) (by decide +kernel) rfl (by decide) rfl ?_
              refine do_append (zs := [.int .i64 0]) slice22 bytes3 (by decide) zero3 rfl rfl (by decide) rfl rfl Try.underlying22 rfl h fun r60 H61 h => ?_
              obtain ⟨hr62, h⟩ := h
              refine ⟨_, (.inr ⟨⟨_, _, rfl, rfl, q_load scalar22 rfl hr62⟩, _, rfl, .inl ⟨⟨[3], by decide +kernel, rfl⟩, rfl⟩⟩), ?_⟩
              refine plan_commit hTb59 fun hh64 => ?_
              have h := h r58 _ ⟨b59, hh64, hrb59, rfl⟩
              obtain ⟨hr65, h⟩ := h
              refine plan_one (j := 7) (S2 := 255) (by decide +kernel) rfl (by decide) rfl ?_
              refine do_append (zs := [.int .i64 0]) slice22 bytes3 (by decide) zero3 rfl rfl (by decide) rfl rfl Try.underlying22 rfl h fun r66 H67 h => ?_
              refine ⟨_, (.inl ⟨⟨[7], by decide +kernel, rfl⟩, rfl⟩), ?_⟩
              refine plan_one (j := 8) (S2 := 511) (by decide +kernel) rfl (by decide) rfl ?_
              obtain ⟨q69b, q69o, q69c, q69e, hq69a, hq69b, hq69l, hq69v, h⟩ := h
              refine do_store (vs := [Sl.v r60]) size22 (pta rfl hq69a) rfl rfl rfl hq69v hq69b hq69l ?_
              refine ⟨_, rfl, ?_⟩
              refine plan_one (j := 9) (S2 := 1023) (by decide +kernel) rfl (by decide) rfl ?_
              obtain ⟨q71b, q71o, q71c, q71e, hq71a, hq71b, hq71l, hq71v, h⟩ := h
              refine do_store (vs := [Sl.v r66]) size22 (pta rfl hq71a) rfl rfl rfl hq71v hq71b hq71l ?_
              refine ⟨_, rfl, ?_⟩
              refine plan_done (by decide +kernel) ?_
              refine Go.inBlock ?_
              exact Go.fallM (g := ()) hM hB hA ⟨0, rfl, h⟩
          · refine pstep_yes (S2 := 115) rfl (by decide +kernel) (by decide) rfl ?_
            refine do_bsT (ps := [(0, .int .i64 x27)]) (zs := [.int .i64 0]) (cs := [.int .i64 x27]) slice22 zero3 rfl rfl (by decide) (by decide) rfl rfl fun b76 r75 hHb76 hTb76 hrb76 => ?_
            refine ⟨_, (.inr ⟨⟨_, _, rfl, rfl, q_load scalar22 rfl hx36⟩, _, rfl, .inr ⟨⟨_, _, rfl, rfl, q_load scalar22 rfl hx34⟩, _, rfl, rfl⟩⟩), ?_⟩
            refine plan_one (j := 2) (S2 := 119) (by decide +kernel) rfl (by decide) rfl ?_
            refine do_bs (ps := [(0, .int .i64 x26)]) (zs := [.int .i64 0]) (cs := [.int .i64 x26]) slice22 zero3 rfl rfl (by decide) (by decide) rfl rfl fun r77 H78 hb79 => ?_
            have h := h r77 H78 hb79
            obtain ⟨hr80, h⟩ := h
            obtain ⟨hr81, h⟩ := h
            refine ⟨_, (.inr ⟨⟨_, _, rfl, rfl, q_load scalar22 rfl hr80⟩, _, rfl, .inr ⟨⟨_, _, rfl, rfl, q_load scalar22 rfl hr81⟩, _, rfl, rfl⟩⟩), ?_⟩
            refine plan_one (j := 3) (S2 := 127) (by decide +kernel) rfl (by decide) rfl ?_
            refine do_append (zs := [.int .i64 0]) slice22 bytes3 (by decide) zero3 rfl rfl (by decide) rfl rfl Try.underlying22 rfl h fun r82 H83 h => ?_
            obtain ⟨hr84, h⟩ := h
            refine ⟨_, (.inr ⟨⟨_, _, rfl, rfl, q_load scalar22 rfl hr84⟩, _, rfl, .inl ⟨⟨[3], by decide +kernel, rfl⟩, rfl⟩⟩), ?_⟩
            refine plan_commit hTb76 fun hh86 => ?_
            have h := h r75 _ ⟨b76, hh86, hrb76, rfl⟩
            obtain ⟨hr87, h⟩ := h
            refine plan_one (j := 7) (S2 := 255) (by decide +kernel) rfl (by decide) rfl ?_
            refine do_append (zs := [.int .i64 0]) slice22 bytes3 (by decide) zero3 rfl rfl (by decide) rfl rfl Try.underlying22 rfl h fun r88 H89 h => ?_
            refine ⟨_, (.inl ⟨⟨[7], by decide +kernel, rfl⟩, rfl⟩), ?_⟩
            refine plan_one (j := 8) (S2 := 511) (by decide +kernel) rfl (by decide) rfl ?_
            obtain ⟨q91b, q91o, q91c, q91e, hq91a, hq91b, hq91l, hq91v, h⟩ := h
            refine do_store (vs := [Sl.v r82]) size22 (pta rfl hq91a) rfl rfl rfl hq91v hq91b hq91l ?_
            refine ⟨_, rfl, ?_⟩
            refine plan_one (j := 9) (S2 := 1023) (by decide +kernel) rfl (by decide) rfl ?_
            obtain ⟨q93b, q93o, q93c, q93e, hq93a, hq93b, hq93l, hq93v, h⟩ := h
            refine do_store (vs := [Sl.v r88]) size22 (pta rfl hq93a) rfl rfl rfl hq93v hq93b hq93l ?_
            refine ⟨_, rfl, ?_⟩
            refine plan_done (by decide +kernel) ?_
            refine Go.inBlock ?_
            exact Go.fallM (g := ()) hM hB hA ⟨0, rfl, h⟩
      · intro q95 H96 h
        intro D M hM hB hA
        refine Go.inBlock ?_
        exact hj15 () _ _ h (by exact ⟨rfl, rfl⟩) _ _ hM hB hA
      · intro q95 H96 h
        intro D M hM hB hA
        refine Go.exit rfl ?_
        exact hj15 () _ _ h (by exact ⟨rfl, rfl⟩) _ _ hM hB hA

/-- (*keelson.window.Window[int]).Next -/
def window_Window_int_Next (p0 : Option Addr) (H : PH) (Q : Int → PH → Prop) : Prop :=
  mIf (Option.isNone p0)
  (Q 0 H)
  (mNil p0 fun a2 =>
  mLd (.int .i64) H (a2.add 1) fun x4 =>
  Q x4 H)

set_option maxRecDepth 20000 in
set_option maxHeartbeats 1000000 in
theorem window_Window_int_Next_s (p0 : Option Addr) (H : PH) (Q : Int → PH → Prop) (h : window_Window_int_Next p0 H Q) :
    CallsH Try.prog 12 #[.pointer p0] H (fun v H' => ∃ (r0 : Int), v = .int .i64 r0 ∧ Q r0 H') := by
  unfold window_Window_int_Next at h
  refine callsH_of_go Try.func12 rfl Try.ntmps12 (Nat.le_of_ble_eq_true rfl) ?_
  refine Go.seq ?_
  refine Go.region rfl ?_
  refine GoOps.q (v := .int .i64 0) rfl rfl (by decide) (q_assign rfl) ?_
  refine GoOps.nil ?_
  refine Go.seq ?_
  refine Go.seq ?_
  refine Go.region rfl ?_
  refine GoOps.q (v := .pointer p0) rfl rfl (by decide) (q_move rfl) ?_
  refine GoOps.q (v := .bool (Option.isNone p0)) rfl rfl (by decide) (q_eqlPn Try.underlying24 rfl rfl) ?_
  refine GoOps.nil ?_
  rcases bor (Option.isNone p0) with hc1 | hc1
  · have h := h.1 hc1
    refine Go.condT (btT rfl hc1) ?_
    refine Go.seq ?_
    refine Go.region rfl ?_
    refine GoOps.q (v := .int .i64 0) rfl rfl (by decide) (q_assign rfl) ?_
    refine GoOps.nil ?_
    exact Go.ret ⟨.inl rfl, _, _, DOk.nil, (resOk1 Try.results12 rfl), ⟨_, rfl, h⟩⟩
  · have h := h.2 hc1
    refine Go.condF (btF rfl hc1) ?_
    refine Go.skip ?_
    refine Go.seq ?_
    refine Go.region rfl ?_
    refine GoOps.q (v := .pointer p0) rfl rfl (by decide) (q_move rfl) ?_
    obtain ⟨a2, ha3, h⟩ := h
    refine GoOps.q (v := .pointer (some a2)) rfl rfl (by decide) (q_nilCheck (ptn rfl ha3)) ?_
    refine GoOps.q (v := .pointer (some (a2.add 1))) rfl rfl (by decide) (q_fieldAddr foff58_1 rfl) ?_
    obtain ⟨x4, hx5, h⟩ := h
    refine GoOps.q (v := .int .i64 x4) rfl rfl (by decide) (q_load scalar3 rfl hx5) ?_
    refine GoOps.q (v := .int .i64 x4) rfl rfl (by decide) (q_assign rfl) ?_
    refine GoOps.nil ?_
    exact Go.ret ⟨.inl rfl, _, _, DOk.nil, (resOk1 Try.results12 rfl), ⟨_, rfl, h⟩⟩

/-- keelson.keelsonalike.Ints -/
def keelsonalike_Ints (p0 : Sl) (p1 : Sl) (H : PH) (Q : Bool → PH → Prop) : Prop :=
  mIf ((p0.len : Int) != (p1.len : Int))
  (Q false H)
  (mLoop (fun (s2 : Int) (H5 : PH) (again3 : Int → PH → Prop) =>
  mIf (decide (s2 < (p0.len : Int)))
  (mIdx p0 1 s2 fun a7 =>
  mLd (.int .i64) H5 a7 fun x9 =>
  mIdx p1 1 s2 fun a11 =>
  mLd (.int .i64) H5 a11 fun x13 =>
  mIf (x9 != x13)
  (Q false H5)
  (again3 (IntKind.wrap .i64 (s2 + 1)) H5))
  (Q true H5))
  0 H)

set_option maxRecDepth 20000 in
set_option maxHeartbeats 1000000 in
theorem keelsonalike_Ints_s (p0 : Sl) (p1 : Sl) (H : PH) (Q : Bool → PH → Prop) (h : keelsonalike_Ints p0 p1 H Q) :
    CallsH Try.prog 15 #[Sl.v p0, Sl.v p1] H (fun v H' => ∃ (r0 : Bool), v = .bool r0 ∧ Q r0 H') := by
  unfold keelsonalike_Ints at h
  refine callsH_of_go Try.func15 rfl Try.ntmps15 (Nat.le_of_ble_eq_true rfl) ?_
  refine Go.seq ?_
  refine Go.region rfl ?_
  refine GoOps.q (v := .bool false) rfl rfl (by decide) (q_assign rfl) ?_
  refine GoOps.nil ?_
  refine Go.seq ?_
  refine Go.seq ?_
  refine Go.region rfl ?_
  refine GoOps.q (v := Sl.v p0) rfl rfl (by decide) (q_move rfl) ?_
  refine GoOps.q (v := .int .i64 (p0.len : Int)) rfl rfl (by decide) (q_len Try.underlying22 rfl (ls1 rfl)) ?_
  refine GoOps.q (v := Sl.v p1) rfl rfl (by decide) (q_move rfl) ?_
  refine GoOps.q (v := .int .i64 (p1.len : Int)) rfl rfl (by decide) (q_len Try.underlying22 rfl (ls1 rfl)) ?_
  refine GoOps.q (v := .bool ((p0.len : Int) != (p1.len : Int))) rfl rfl (by decide) (q_neq rfl rfl) ?_
  refine GoOps.nil ?_
  rcases bor ((p0.len : Int) != (p1.len : Int)) with hc1 | hc1
  · have h := h.1 hc1
    refine Go.condT (btT rfl hc1) ?_
    refine Go.seq ?_
    refine Go.region rfl ?_
    refine GoOps.q (v := .bool false) rfl rfl (by decide) (q_assign rfl) ?_
    refine GoOps.nil ?_
    exact Go.ret ⟨.inl rfl, _, _, DOk.nil, (resOk1 Try.results15 rfl), ⟨_, rfl, h⟩⟩
  · have h := h.2 hc1
    refine Go.condF (btF rfl hc1) ?_
    refine Go.skip ?_
    refine Go.seq ?_
    refine Go.seq ?_
    refine Go.region rfl ?_
    refine GoOps.q (v := .int .i64 0) rfl rfl (by decide) (q_assign rfl) ?_
    refine GoOps.nil ?_
    refine Go.block ?_
    refine loop_go (fun ρ (s2 : Int) => ρ 0 = Sl.v p0 ∧ ρ 1 = Sl.v p1 ∧ ρ 5 = .int .i64 s2) h ⟨rfl, rfl, rfl⟩ ?_
    clear h
    intro ρ s2 H5 again3 hE h hagain3
    obtain ⟨e4_0, e4_1, e4_5⟩ := hE
    refine Go.seq ?_
    refine Go.seq ?_
    refine Go.region rfl ?_
    refine GoOps.q (v := .int .i64 s2) rfl rfl (by decide) (q_move e4_5) ?_
    refine GoOps.q (v := Sl.v p0) rfl rfl (by decide) (q_move e4_0) ?_
    refine GoOps.q (v := .int .i64 (p0.len : Int)) rfl rfl (by decide) (q_len Try.underlying22 rfl (ls1 rfl)) ?_
    refine GoOps.q (v := .bool (decide (s2 < (p0.len : Int)))) rfl rfl (by decide) (q_lss rfl rfl) ?_
    refine GoOps.nil ?_
    rcases bor (decide (s2 < (p0.len : Int))) with hc6 | hc6
    · have h := h.1 hc6
      refine Go.condT (btT rfl hc6) ?_
      refine Go.skip ?_
      refine Go.seq ?_
      refine Go.block ?_
      refine Go.seq ?_
      refine Go.draw mixed ?_
      refine plan_pure (i := 0) (d := 17) (S2 := 1) (v := Sl.v p0) rfl (by decide +kernel) rfl (q_move e4_0) ?_
      refine plan_pure (i := 1) (d := 18) (S2 := 3) (v := .int .i64 s2) rfl (by decide +kernel) rfl (q_move e4_5) ?_
      obtain ⟨a7, ha8, h⟩ := h
      refine plan_pure (i := 2) (d := 19) (S2 := 7) (v := .pointer (some a7)) rfl (by decide +kernel) rfl (q_idx slice22 ha8 rfl rfl) ?_
      obtain ⟨x9, hx10, h⟩ := h
      refine plan_load (i := 3) (d := 20) (S2 := 15) (v := .int .i64 x9) rfl (by decide +kernel) rfl (q_load scalar3 rfl hx10) ?_
      refine plan_pure (i := 4) (d := 21) (S2 := 31) (v := Sl.v p1) rfl (by decide +kernel) rfl (q_move e4_1) ?_
      refine plan_pure (i := 5) (d := 22) (S2 := 63) (v := .int .i64 s2) rfl (by decide +kernel) rfl (q_move e4_5) ?_
      obtain ⟨a11, ha12, h⟩ := h
      refine plan_pure (i := 6) (d := 23) (S2 := 127) (v := .pointer (some a11)) rfl (by decide +kernel) rfl (q_idx slice22 ha12 rfl rfl) ?_
      obtain ⟨x13, hx14, h⟩ := h
      refine plan_load (i := 7) (d := 24) (S2 := 255) (v := .int .i64 x13) rfl (by decide +kernel) rfl (q_load scalar3 rfl hx14) ?_
      refine plan_pure (i := 8) (d := 25) (S2 := 511) (v := .bool (x9 != x13)) rfl (by decide +kernel) rfl (q_neq rfl rfl) ?_
      refine plan_done (by decide +kernel) ?_
      rcases bor (x9 != x13) with hc15 | hc15
      · have h := h.1 hc15
        refine Go.condT (btT rfl hc15) ?_
        refine Go.seq ?_
        refine Go.region rfl ?_
        refine GoOps.q (v := .bool false) rfl rfl (by decide) (q_assign rfl) ?_
        refine GoOps.nil ?_
        exact Go.ret ⟨.inl rfl, _, _, DOk.nil, (resOk1 Try.results15 rfl), ⟨_, rfl, h⟩⟩
      · have h := h.2 hc15
        refine Go.condF (btF rfl hc15) ?_
        refine Go.skip ?_
        refine Go.inBlock ?_
        refine Go.region rfl ?_
        refine GoOps.q (v := .int .i64 s2) rfl rfl (by decide) (q_move e4_5) ?_
        refine GoOps.q (v := .int .i64 (IntKind.wrap .i64 (s2 + 1))) rfl rfl (by decide) (q_add rfl rfl) ?_
        refine GoOps.q (v := .int .i64 (IntKind.wrap .i64 (s2 + 1))) rfl rfl (by decide) (q_assign rfl) ?_
        refine GoOps.nil ?_
        exact hagain3 _ _ _ h ⟨e4_0, e4_1, rfl⟩
    · have h := h.2 hc6
      refine Go.condF (btF rfl hc6) ?_
      refine Go.exit rfl ?_
      refine Go.seq ?_
      refine Go.region rfl ?_
      refine GoOps.q (v := .bool true) rfl rfl (by decide) (q_assign rfl) ?_
      refine GoOps.nil ?_
      exact Go.ret ⟨.inl rfl, _, _, DOk.nil, (resOk1 Try.results15 rfl), ⟨_, rfl, h⟩⟩

/-- (*keelson.window.Window[int]).Len -/
def window_Window_int_Len (p0 : Option Addr) (H : PH) (Q : Int → PH → Prop) : Prop :=
  mNew H (row [.int .i64 0] 3) fun a1 H2 =>
  window_Window_int_All p0 H2 fun y5 H4 =>
  IterH Try.prog y5 (fun (vs6 : List Value) (q7 : Unit) (H8 : PH) (y9 : Nat → Unit → PH → Prop) =>
  ∃ (x10 : Int) (x11 : Int), vs6 = [.int .i64 x10, .int .i64 x11] ∧
  mLd (.int .i64) H8 a1 fun x12 =>
  mSt H8 a1 ([.int .i64 (IntKind.wrap .i64 (x12 + 1))]) fun H14 =>
  y9 0 () H14) () H4 fun _ q17 H18 =>
  mLd (.int .i64) H18 a1 fun x19 =>
  mSt H18 a1 ([.int .i64 x19]) fun H21 =>
  mLd (.int .i64) H21 a1 fun x23 =>
  Q x23 H21

set_option maxRecDepth 20000 in
set_option maxHeartbeats 1000000 in
theorem window_Window_int_Len_s (p0 : Option Addr) (H : PH) (Q : Int → PH → Prop) (h : window_Window_int_Len p0 H Q) :
    CallsH Try.prog 14 #[.pointer p0] H (fun v H' => ∃ (r0 : Int), v = .int .i64 r0 ∧ Q r0 H') := by
  unfold window_Window_int_Len at h
  refine callsH_of_goM Try.func14 rfl Try.ntmps14 (Nat.le_of_ble_eq_true rfl) ?_
  intro D M hM hB hA
  refine Go.seq ?_
  refine Go.region rfl ?_
  refine op_dst rfl rfl (by decide) (do_new zero3 rfl fun a1 H2 hb3 => ?_) 
  have h := h a1 H2 hb3
  refine GoOps.nil ?_
  refine Go.seq ?_
  refine Go.seq ?_
  refine Go.region rfl ?_
  refine GoOps.q (v := .pointer p0) rfl rfl (by decide) (q_move rfl) ?_
  refine call_dst rfl (by decide) body29 (window_Window_int_All_s _ _ _ h) rfl ?_
  rintro y5 H4 ⟨_, rfl, h⟩
  refine GoOps.nil ?_
  refine Go.block ?_
  refine go_range0 (g := ()) h rfl (fun _ _ _ h => h) rfl hM hB hA trivial ?_ ?_ <;> clear h
  · rintro _ q7 H8 y9 ⟨x10, x11, rfl, h⟩
    refine ⟨rfl, fun lp Bx r hr => ?_⟩
    clear hM hB hA
    intro D M hM hB hA
    refine Go.skip ?_
    refine go_begin (g := ()) hr hB hA fun M hB hA => ?_
    have hM : Mk (some lp) D M := trivial
    refine Go.block ?_
    refine Go.region rfl ?_
    obtain ⟨x12, hx13, h⟩ := h
    refine GoOps.q (v := .int .i64 x12) rfl rfl (by decide) (q_load scalar3 rfl hx13) ?_
    refine GoOps.q (v := .int .i64 (IntKind.wrap .i64 (x12 + 1))) rfl rfl (by decide) (q_add rfl rfl) ?_
    obtain ⟨q15b, q15o, q15c, q15e, hq15a, hq15b, hq15l, hq15v, h⟩ := h
    refine op_none rfl rfl (do_store (vs := [.int .i64 (IntKind.wrap .i64 (x12 + 1))]) size3 (pta rfl hq15a) rfl rfl rfl hq15v hq15b hq15l ?_) 
    refine GoOps.nil ?_
    refine Go.inBlock ?_
    exact Go.fallM (g := ()) hM hB hA ⟨0, rfl, h⟩
  · intro q17 H18 h
    intro D M hM hB hA
    refine Go.inBlock ?_
    refine Go.seq ?_
    refine Go.region rfl ?_
    obtain ⟨x19, hx20, h⟩ := h
    refine GoOps.q (v := .int .i64 x19) rfl rfl (by decide) (q_load scalar3 rfl hx20) ?_
    obtain ⟨q22b, q22o, q22c, q22e, hq22a, hq22b, hq22l, hq22v, h⟩ := h
    refine op_none rfl rfl (do_store (vs := [.int .i64 x19]) size3 (pta rfl hq22a) rfl rfl rfl hq22v hq22b hq22l ?_) 
    refine GoOps.nil ?_
    obtain ⟨x23, hx24, h⟩ := h
    exact Go.retM (g := ()) hM hB hA ⟨.inl rfl, _, (resOkV1 Try.results14 (rv_cell scalar3 rfl hx24)), ⟨_, rfl, h⟩⟩

/-- keelson.keelsonlaw23.awake -/
def keelsonlaw23_awake (H : PH) (Q : Bool → PH → Prop) : Prop :=
  window_New_int 4 7 H fun y2 H1 =>
  mJoin (fun (s4 : Bool) (H6 : PH) =>
  mJoin (fun (s9 : Bool) (H11 : PH) =>
  mJoin (fun (s14 : Bool) (H16 : PH) =>
  mIf s14
  (Q false H16)
  (window_Window_int_Put y2 11 1 H16 fun y20 H19 =>
  window_Window_int_Put y2 10 2 H19 fun y22 H21 =>
  window_Window_int_Put y2 7 3 H21 fun y24 H23 =>
  window_Window_int_Put y2 7 4 H23 fun y26 H25 =>
  window_Window_int_Pop y2 H25 fun y28 y29 H27 =>
  window_Window_int_Pop y2 H27 fun y31 y32 H30 =>
  keelsonlaw23_all y2 9 H30 fun y34 y35 H33 =>
  mJoin (fun (s37 : Bool) (H39 : PH) =>
  mJoin (fun (s42 : Bool) (H44 : PH) =>
  mJoin (fun (s47 : Bool) (H49 : PH) =>
  mJoin (fun (s52 : Bool) (H54 : PH) =>
  mJoin (fun (s57 : Bool) (H59 : PH) =>
  mJoin (fun (s62 : Bool) (H64 : PH) =>
  mJoin (fun (s67 : Bool) (H69 : PH) =>
  mJoin (fun (s72 : Bool) (H74 : PH) =>
  mJoin (fun (s77 : Bool) (H79 : PH) =>
  mJoin (fun (s82 : Bool) (H84 : PH) =>
  mJoin (fun (s87 : Bool) (H89 : PH) =>
  Q s87 H89)
  fun j88 =>
  mIf s82
  (window_Window_int_Put none 1 1 H84 fun y92 H91 =>
  j88 (y92 == 10) H91)
  (j88 false H84))
  fun j83 =>
  mIf s77
  (window_Window_int_Len none H79 fun y94 H93 =>
  j83 (y94 == 0) H93)
  (j83 false H79))
  fun j78 =>
  mIf s72
  (mNewS H74 (row [.int .i64 2] 3) 1 fun r95 H96 =>
  keelsonalike_Ints y35 r95 H96 fun y99 H98 =>
  j78 y99 H98)
  (j78 false H74))
  fun j73 =>
  mIf s67
  (mNewS H69 (row [.int .i64 10] 3) 1 fun r100 H101 =>
  keelsonalike_Ints y34 r100 H101 fun y104 H103 =>
  j73 y104 H103)
  (j73 false H69))
  fun j68 =>
  mIf s62
  (window_Window_int_Next y2 H64 fun y106 H105 =>
  j68 (y106 == 8) H105)
  (j68 false H64))
  fun j63 =>
  mIf s57
  (j63 (!y32) H59)
  (j63 false H59))
  fun j58 =>
  mIf s52
  (j58 (y28 == 3) H54)
  (j58 false H54))
  fun j53 =>
  mIf s47
  (j53 y29 H49)
  (j53 false H49))
  fun j48 =>
  mIf s42
  (j48 (y26 == 9) H44)
  (j48 false H44))
  fun j43 =>
  mIf s37
  (j43 (y24 == 0) H39)
  (j43 false H39))
  fun j38 =>
  mIf (y20 == 10)
  (j38 (y22 == 0) H33)
  (j38 false H33)))
  fun j15 =>
  mIf s9
  (j15 true H11)
  (window_New_int 4 0 H11 fun y108 H107 =>
  j15 (!(Option.isNone y108)) H107))
  fun j10 =>
  mIf s4
  (j10 true H6)
  (window_New_int 17 1 H6 fun y110 H109 =>
  j10 (!(Option.isNone y110)) H109))
  fun j5 =>
  mIf (Option.isNone y2)
  (j5 true H1)
  (window_New_int 0 1 H1 fun y112 H111 =>
  j5 (!(Option.isNone y112)) H111)

set_option maxRecDepth 20000 in
set_option maxHeartbeats 1000000 in
theorem keelsonlaw23_awake_s (H : PH) (Q : Bool → PH → Prop) (h : keelsonlaw23_awake H Q) :
    CallsH Try.prog 7 #[] H (fun v H' => ∃ (r0 : Bool), v = .bool r0 ∧ Q r0 H') := by
  unfold keelsonlaw23_awake at h
  refine callsH_of_go Try.func7 rfl Try.ntmps7 (Nat.le_of_ble_eq_true rfl) ?_
  refine Go.seq ?_
  refine Go.region rfl ?_
  refine GoOps.q (v := .bool false) rfl rfl (by decide) (q_assign rfl) ?_
  refine GoOps.nil ?_
  refine Go.seq ?_
  refine Go.region rfl ?_
  refine call_dst rfl (by decide) body8 (window_New_int_s _ _ _ _ h) rfl ?_
  rintro _ H1 ⟨y2, rfl, h⟩
  refine GoOps.q (v := .pointer y2) rfl rfl (by decide) (q_assign rfl) ?_
  refine GoOps.nil ?_
  refine Go.seq ?_
  refine Go.seq ?_
  refine Go.region rfl ?_
  refine GoOps.q (v := .pointer y2) rfl rfl (by decide) (q_move rfl) ?_
  refine GoOps.q (v := .bool (Option.isNone y2)) rfl rfl (by decide) (q_eqlPn Try.underlying24 rfl rfl) ?_
  refine GoOps.q (v := .bool (Option.isNone y2)) rfl rfl (by decide) (q_move rfl) ?_
  refine join_ops 3 (fun ρ (s4 : Bool) => ρ 1 = .pointer y2 ∧ ρ 19 = .bool s4) h ?_ ?_ <;> clear h
  · intro s4 H6 ρ h hE
    obtain ⟨e7_1, e7_19⟩ := hE
    refine GoOps.q (v := .bool s4) rfl rfl (by decide) (q_move e7_19) ?_
    refine join_ops 3 (fun ρ (s9 : Bool) => ρ 1 = .pointer y2 ∧ ρ 23 = .bool s9) h ?_ ?_ <;> clear h
    · intro s9 H11 ρ h hE
      obtain ⟨e12_1, e12_23⟩ := hE
      refine GoOps.q (v := .bool s9) rfl rfl (by decide) (q_move e12_23) ?_
      refine join_ops 3 (fun ρ (s14 : Bool) => ρ 1 = .pointer y2 ∧ ρ 27 = .bool s14) h ?_ ?_ <;> clear h
      · intro s14 H16 ρ h hE
        obtain ⟨e17_1, e17_27⟩ := hE
        refine GoOps.nil ?_
        rcases bor s14 with hc18 | hc18
        · have h := h.1 hc18
          refine Go.condT (btT e17_27 hc18) ?_
          refine Go.seq ?_
          refine Go.region rfl ?_
          refine GoOps.q (v := .bool false) rfl rfl (by decide) (q_assign rfl) ?_
          refine GoOps.nil ?_
          exact Go.ret ⟨.inl rfl, _, _, DOk.nil, (resOk1 Try.results7 rfl), ⟨_, rfl, h⟩⟩
        · have h := h.2 hc18
          refine Go.condF (btF e17_27 hc18) ?_
          refine Go.skip ?_
          refine Go.seq ?_
          refine Go.region rfl ?_
          refine GoOps.q (v := .pointer y2) rfl rfl (by decide) (q_move e17_1) ?_
          refine call_dst rfl (by decide) body10 (window_Window_int_Put_s _ _ _ _ _ h) rfl ?_
          rintro _ H19 ⟨y20, rfl, h⟩
          refine GoOps.q (v := .pointer y2) rfl rfl (by decide) (q_move e17_1) ?_
          refine call_dst rfl (by decide) body10 (window_Window_int_Put_s _ _ _ _ _ h) rfl ?_
          rintro _ H21 ⟨y22, rfl, h⟩
          refine GoOps.q (v := .pointer y2) rfl rfl (by decide) (q_move e17_1) ?_
          refine call_dst rfl (by decide) body10 (window_Window_int_Put_s _ _ _ _ _ h) rfl ?_
          rintro _ H23 ⟨y24, rfl, h⟩
          refine GoOps.q (v := .pointer y2) rfl rfl (by decide) (q_move e17_1) ?_
          refine call_dst rfl (by decide) body10 (window_Window_int_Put_s _ _ _ _ _ h) rfl ?_
          rintro _ H25 ⟨y26, rfl, h⟩
          refine GoOps.q (v := .int .i64 y20) rfl rfl (by decide) (q_assign rfl) ?_
          refine GoOps.q (v := .int .i64 y22) rfl rfl (by decide) (q_assign rfl) ?_
          refine GoOps.q (v := .int .i64 y24) rfl rfl (by decide) (q_assign rfl) ?_
          refine GoOps.q (v := .int .i64 y26) rfl rfl (by decide) (q_assign rfl) ?_
          refine GoOps.nil ?_
          refine Go.seq ?_
          refine Go.region rfl ?_
          refine GoOps.q (v := .pointer y2) rfl rfl (by decide) (q_move e17_1) ?_
          refine call_dst rfl (by decide) body11 (window_Window_int_Pop_s _ _ _ h) rfl ?_
          rintro _ H27 ⟨y28, y29, rfl, h⟩
          refine GoOps.q (v := .tuple #[.int .i64 y28, .bool y29]) rfl rfl (by decide) (q_move rfl) ?_
          refine GoOps.q (v := .int .i64 y28) rfl rfl (by decide) (q_extract rfl rfl) ?_
          refine GoOps.q (v := .bool y29) rfl rfl (by decide) (q_extract rfl rfl) ?_
          refine GoOps.q (v := .int .i64 y28) rfl rfl (by decide) (q_assign rfl) ?_
          refine GoOps.q (v := .bool y29) rfl rfl (by decide) (q_assign rfl) ?_
          refine GoOps.nil ?_
          refine Go.seq ?_
          refine Go.region rfl ?_
          refine GoOps.q (v := .pointer y2) rfl rfl (by decide) (q_move e17_1) ?_
          refine call_dst rfl (by decide) body11 (window_Window_int_Pop_s _ _ _ h) rfl ?_
          rintro _ H30 ⟨y31, y32, rfl, h⟩
          refine GoOps.q (v := .tuple #[.int .i64 y31, .bool y32]) rfl rfl (by decide) (q_move rfl) ?_
          refine GoOps.q (v := .int .i64 y31) rfl rfl (by decide) (q_extract rfl rfl) ?_
          refine GoOps.q (v := .bool y32) rfl rfl (by decide) (q_extract rfl rfl) ?_
          refine GoOps.q (v := .int .i64 y31) rfl rfl (by decide) (q_assign rfl) ?_
          refine GoOps.q (v := .bool y32) rfl rfl (by decide) (q_assign rfl) ?_
          refine GoOps.nil ?_
          refine Go.seq ?_
          refine Go.region rfl ?_
          refine GoOps.q (v := .pointer y2) rfl rfl (by decide) (q_move e17_1) ?_
          refine call_dst rfl (by decide) body13 (keelsonlaw23_all_s _ _ _ _ h) rfl ?_
          rintro _ H33 ⟨y34, y35, rfl, h⟩
          refine GoOps.q (v := .tuple #[Sl.v y34, Sl.v y35]) rfl rfl (by decide) (q_move rfl) ?_
          refine GoOps.q (v := Sl.v y34) rfl rfl (by decide) (q_extract rfl rfl) ?_
          refine GoOps.q (v := Sl.v y35) rfl rfl (by decide) (q_extract rfl rfl) ?_
          refine GoOps.q (v := Sl.v y34) rfl rfl (by decide) (q_assign rfl) ?_
          refine GoOps.q (v := Sl.v y35) rfl rfl (by decide) (q_assign rfl) ?_
          refine GoOps.nil ?_
          refine Go.seq ?_
          refine Go.region rfl ?_
          refine GoOps.q (v := .pointer none) rfl rfl (by decide) (q_assign rfl) ?_
          refine GoOps.nil ?_
          refine Go.seq ?_
          refine Go.region rfl ?_
          refine GoOps.q (v := .int .i64 y20) rfl rfl (by decide) (q_move rfl) ?_
          refine GoOps.q (v := .bool (y20 == 10)) rfl rfl (by decide) (q_eql rfl rfl) ?_
          refine GoOps.q (v := .bool (y20 == 10)) rfl rfl (by decide) (q_move rfl) ?_
          refine join_ops 3 (fun ρ (s37 : Bool) => ρ 1 = .pointer y2 ∧ ρ 4 = .int .i64 y24 ∧ ρ 5 = .int .i64 y26 ∧ ρ 6 = .int .i64 y28 ∧ ρ 7 = .bool y29 ∧ ρ 9 = .bool y32 ∧ ρ 10 = Sl.v y34 ∧ ρ 11 = Sl.v y35 ∧ ρ 12 = .pointer none ∧ ρ 56 = .bool s37) h ?_ ?_ <;> clear h
          · intro s37 H39 ρ h hE
            obtain ⟨e40_1, e40_4, e40_5, e40_6, e40_7, e40_9, e40_10, e40_11, e40_12, e40_56⟩ := hE
            refine GoOps.q (v := .bool s37) rfl rfl (by decide) (q_move e40_56) ?_
            refine join_ops 3 (fun ρ (s42 : Bool) => ρ 1 = .pointer y2 ∧ ρ 5 = .int .i64 y26 ∧ ρ 6 = .int .i64 y28 ∧ ρ 7 = .bool y29 ∧ ρ 9 = .bool y32 ∧ ρ 10 = Sl.v y34 ∧ ρ 11 = Sl.v y35 ∧ ρ 12 = .pointer none ∧ ρ 60 = .bool s42) h ?_ ?_ <;> clear h
            · intro s42 H44 ρ h hE
              obtain ⟨e45_1, e45_5, e45_6, e45_7, e45_9, e45_10, e45_11, e45_12, e45_60⟩ := hE
              refine GoOps.q (v := .bool s42) rfl rfl (by decide) (q_move e45_60) ?_
              refine join_ops 3 (fun ρ (s47 : Bool) => ρ 1 = .pointer y2 ∧ ρ 6 = .int .i64 y28 ∧ ρ 7 = .bool y29 ∧ ρ 9 = .bool y32 ∧ ρ 10 = Sl.v y34 ∧ ρ 11 = Sl.v y35 ∧ ρ 12 = .pointer none ∧ ρ 64 = .bool s47) h ?_ ?_ <;> clear h
              · intro s47 H49 ρ h hE
                obtain ⟨e50_1, e50_6, e50_7, e50_9, e50_10, e50_11, e50_12, e50_64⟩ := hE
                refine GoOps.q (v := .bool s47) rfl rfl (by decide) (q_move e50_64) ?_
                refine join_ops 2 (fun ρ (s52 : Bool) => ρ 1 = .pointer y2 ∧ ρ 6 = .int .i64 y28 ∧ ρ 9 = .bool y32 ∧ ρ 10 = Sl.v y34 ∧ ρ 11 = Sl.v y35 ∧ ρ 12 = .pointer none ∧ ρ 67 = .bool s52) h ?_ ?_ <;> clear h
                · intro s52 H54 ρ h hE
                  obtain ⟨e55_1, e55_6, e55_9, e55_10, e55_11, e55_12, e55_67⟩ := hE
                  refine GoOps.q (v := .bool s52) rfl rfl (by decide) (q_move e55_67) ?_
                  refine join_ops 3 (fun ρ (s57 : Bool) => ρ 1 = .pointer y2 ∧ ρ 9 = .bool y32 ∧ ρ 10 = Sl.v y34 ∧ ρ 11 = Sl.v y35 ∧ ρ 12 = .pointer none ∧ ρ 71 = .bool s57) h ?_ ?_ <;> clear h
                  · intro s57 H59 ρ h hE
                    obtain ⟨e60_1, e60_9, e60_10, e60_11, e60_12, e60_71⟩ := hE
                    refine GoOps.q (v := .bool s57) rfl rfl (by decide) (q_move e60_71) ?_
                    refine join_ops 3 (fun ρ (s62 : Bool) => ρ 1 = .pointer y2 ∧ ρ 10 = Sl.v y34 ∧ ρ 11 = Sl.v y35 ∧ ρ 12 = .pointer none ∧ ρ 75 = .bool s62) h ?_ ?_ <;> clear h
                    · intro s62 H64 ρ h hE
                      obtain ⟨e65_1, e65_10, e65_11, e65_12, e65_75⟩ := hE
                      refine GoOps.q (v := .bool s62) rfl rfl (by decide) (q_move e65_75) ?_
                      refine join_ops 4 (fun ρ (s67 : Bool) => ρ 10 = Sl.v y34 ∧ ρ 11 = Sl.v y35 ∧ ρ 12 = .pointer none ∧ ρ 80 = .bool s67) h ?_ ?_ <;> clear h
                      · intro s67 H69 ρ h hE
                        obtain ⟨e70_10, e70_11, e70_12, e70_80⟩ := hE
                        refine GoOps.q (v := .bool s67) rfl rfl (by decide) (q_move e70_80) ?_
                        refine join_ops 4 (fun ρ (s72 : Bool) => ρ 11 = Sl.v y35 ∧ ρ 12 = .pointer none ∧ ρ 85 = .bool s72) h ?_ ?_ <;> clear h
                        · intro s72 H74 ρ h hE
                          obtain ⟨e75_11, e75_12, e75_85⟩ := hE
                          refine GoOps.q (v := .bool s72) rfl rfl (by decide) (q_move e75_85) ?_
                          refine join_ops 4 (fun ρ (s77 : Bool) => ρ 12 = .pointer none ∧ ρ 90 = .bool s77) h ?_ ?_ <;> clear h
                          · intro s77 H79 ρ h hE
                            obtain ⟨e80_12, e80_90⟩ := hE
                            refine GoOps.q (v := .bool s77) rfl rfl (by decide) (q_move e80_90) ?_
                            refine join_ops 4 (fun ρ (s82 : Bool) => ρ 12 = .pointer none ∧ ρ 95 = .bool s82) h ?_ ?_ <;> clear h
                            · intro s82 H84 ρ h hE
                              obtain ⟨e85_12, e85_95⟩ := hE
                              refine GoOps.q (v := .bool s82) rfl rfl (by decide) (q_move e85_95) ?_
                              refine join_ops 4 (fun ρ (s87 : Bool) => ρ 100 = .bool s87) h ?_ ?_ <;> clear h
                              · intro s87 H89 ρ h hE
                                have e90_100 := hE
                                refine GoOps.q (v := .bool s87) rfl rfl (by decide) (q_assign e90_100) ?_
                                refine GoOps.nil ?_
                                exact Go.ret ⟨.inl rfl, _, _, DOk.nil, (resOk1 Try.results7 rfl), ⟨_, rfl, h⟩⟩
                              · intro j88 hj88 h
                                rcases bor s82 with hc86 | hc86
                                · have h := h.1 hc86
                                  refine GoOps.q (v := .pointer none) (want_yes rfl rfl rfl hc86) rfl (by decide) (q_move e85_12) ?_
                                  refine call_dst (want_yes rfl rfl rfl hc86) (by decide) body10 (window_Window_int_Put_s _ _ _ _ _ h) rfl ?_
                                  rintro _ H91 ⟨y92, rfl, h⟩
                                  refine GoOps.q (v := .bool (y92 == 10)) (want_yes rfl rfl rfl hc86) rfl (by decide) (q_eql rfl rfl) ?_
                                  refine GoOps.q (v := .bool (y92 == 10)) rfl rfl (by decide) (q_pickT (btT rfl hc86) rfl) ?_
                                  exact hj88 (y92 == 10) _ _ h (by exact rfl)
                                · have h := h.2 hc86
                                  refine no_dst (want_no rfl rfl rfl hc86) rfl (by decide) ?_
                                  refine no_dst (want_no rfl rfl rfl hc86) rfl (by decide) ?_
                                  refine no_dst (want_no rfl rfl rfl hc86) rfl (by decide) ?_
                                  refine GoOps.q (v := .bool false) rfl rfl (by decide) (q_pickF (btF rfl hc86) rfl) ?_
                                  exact hj88 false _ _ h (by exact rfl)
                            · intro j83 hj83 h
                              rcases bor s77 with hc81 | hc81
                              · have h := h.1 hc81
                                refine GoOps.q (v := .pointer none) (want_yes rfl rfl rfl hc81) rfl (by decide) (q_move e80_12) ?_
                                refine call_dst (want_yes rfl rfl rfl hc81) (by decide) body14 (window_Window_int_Len_s _ _ _ h) rfl ?_
                                rintro _ H93 ⟨y94, rfl, h⟩
                                refine GoOps.q (v := .bool (y94 == 0)) (want_yes rfl rfl rfl hc81) rfl (by decide) (q_eql rfl rfl) ?_
                                refine GoOps.q (v := .bool (y94 == 0)) rfl rfl (by decide) (q_pickT (btT rfl hc81) rfl) ?_
                                exact hj83 (y94 == 0) _ _ h (by exact ⟨e80_12, rfl⟩)
                              · have h := h.2 hc81
                                refine no_dst (want_no rfl rfl rfl hc81) rfl (by decide) ?_
                                refine no_dst (want_no rfl rfl rfl hc81) rfl (by decide) ?_
                                refine no_dst (want_no rfl rfl rfl hc81) rfl (by decide) ?_
                                refine GoOps.q (v := .bool false) rfl rfl (by decide) (q_pickF (btF rfl hc81) rfl) ?_
                                exact hj83 false _ _ h (by exact ⟨e80_12, rfl⟩)
                          · intro j78 hj78 h
                            rcases bor s72 with hc76 | hc76
                            · have h := h.1 hc76
                              refine GoOps.q (v := Sl.v y35) (want_yes rfl rfl rfl hc76) rfl (by decide) (q_move e75_11) ?_
                              refine op_dst (want_yes rfl rfl rfl hc76) rfl (by decide) (do_bs (ps := [(0, .int .i64 2)]) (zs := [.int .i64 0]) (cs := [.int .i64 2]) slice22 zero3 rfl rfl (by decide) (by decide) rfl rfl fun r95 H96 hb97 => ?_) 
                              have h := h r95 H96 hb97
                              refine call_dst (want_yes rfl rfl rfl hc76) (by decide) body15 (keelsonalike_Ints_s _ _ _ _ h) rfl ?_
                              rintro _ H98 ⟨y99, rfl, h⟩
                              refine GoOps.q (v := .bool y99) rfl rfl (by decide) (q_pickT (btT rfl hc76) rfl) ?_
                              exact hj78 y99 _ _ h (by exact ⟨e75_12, rfl⟩)
                            · have h := h.2 hc76
                              refine no_dst (want_no rfl rfl rfl hc76) rfl (by decide) ?_
                              refine no_dst (want_no rfl rfl rfl hc76) rfl (by decide) ?_
                              refine no_dst (want_no rfl rfl rfl hc76) rfl (by decide) ?_
                              refine GoOps.q (v := .bool false) rfl rfl (by decide) (q_pickF (btF rfl hc76) rfl) ?_
                              exact hj78 false _ _ h (by exact ⟨e75_12, rfl⟩)
                        · intro j73 hj73 h
                          rcases bor s67 with hc71 | hc71
                          · have h := h.1 hc71
                            refine GoOps.q (v := Sl.v y34) (want_yes rfl rfl rfl hc71) rfl (by decide) (q_move e70_10) ?_
                            refine op_dst (want_yes rfl rfl rfl hc71) rfl (by decide) (do_bs (ps := [(0, .int .i64 10)]) (zs := [.int .i64 0]) (cs := [.int .i64 10]) slice22 zero3 rfl rfl (by decide) (by decide) rfl rfl fun r100 H101 hb102 => ?_) 
                            have h := h r100 H101 hb102
                            refine call_dst (want_yes rfl rfl rfl hc71) (by decide) body15 (keelsonalike_Ints_s _ _ _ _ h) rfl ?_
                            rintro _ H103 ⟨y104, rfl, h⟩
                            refine GoOps.q (v := .bool y104) rfl rfl (by decide) (q_pickT (btT rfl hc71) rfl) ?_
                            exact hj73 y104 _ _ h (by exact ⟨e70_11, e70_12, rfl⟩)
                          · have h := h.2 hc71
                            refine no_dst (want_no rfl rfl rfl hc71) rfl (by decide) ?_
                            refine no_dst (want_no rfl rfl rfl hc71) rfl (by decide) ?_
                            refine no_dst (want_no rfl rfl rfl hc71) rfl (by decide) ?_
                            refine GoOps.q (v := .bool false) rfl rfl (by decide) (q_pickF (btF rfl hc71) rfl) ?_
                            exact hj73 false _ _ h (by exact ⟨e70_11, e70_12, rfl⟩)
                      · intro j68 hj68 h
                        rcases bor s62 with hc66 | hc66
                        · have h := h.1 hc66
                          refine GoOps.q (v := .pointer y2) (want_yes rfl rfl rfl hc66) rfl (by decide) (q_move e65_1) ?_
                          refine call_dst (want_yes rfl rfl rfl hc66) (by decide) body12 (window_Window_int_Next_s _ _ _ h) rfl ?_
                          rintro _ H105 ⟨y106, rfl, h⟩
                          refine GoOps.q (v := .bool (y106 == 8)) (want_yes rfl rfl rfl hc66) rfl (by decide) (q_eql rfl rfl) ?_
                          refine GoOps.q (v := .bool (y106 == 8)) rfl rfl (by decide) (q_pickT (btT rfl hc66) rfl) ?_
                          exact hj68 (y106 == 8) _ _ h (by exact ⟨e65_10, e65_11, e65_12, rfl⟩)
                        · have h := h.2 hc66
                          refine no_dst (want_no rfl rfl rfl hc66) rfl (by decide) ?_
                          refine no_dst (want_no rfl rfl rfl hc66) rfl (by decide) ?_
                          refine no_dst (want_no rfl rfl rfl hc66) rfl (by decide) ?_
                          refine GoOps.q (v := .bool false) rfl rfl (by decide) (q_pickF (btF rfl hc66) rfl) ?_
                          exact hj68 false _ _ h (by exact ⟨e65_10, e65_11, e65_12, rfl⟩)
                    · intro j63 hj63 h
                      rcases bor s57 with hc61 | hc61
                      · have h := h.1 hc61
                        refine GoOps.q (v := .bool y32) (want_yes rfl rfl rfl hc61) rfl (by decide) (q_move e60_9) ?_
                        refine GoOps.q (v := .bool (!y32)) (want_yes rfl rfl rfl hc61) rfl (by decide) (q_not rfl) ?_
                        refine GoOps.q (v := .bool (!y32)) rfl rfl (by decide) (q_pickT (btT rfl hc61) rfl) ?_
                        exact hj63 (!y32) _ _ h (by exact ⟨e60_1, e60_10, e60_11, e60_12, rfl⟩)
                      · have h := h.2 hc61
                        refine no_dst (want_no rfl rfl rfl hc61) rfl (by decide) ?_
                        refine no_dst (want_no rfl rfl rfl hc61) rfl (by decide) ?_
                        refine GoOps.q (v := .bool false) rfl rfl (by decide) (q_pickF (btF rfl hc61) rfl) ?_
                        exact hj63 false _ _ h (by exact ⟨e60_1, e60_10, e60_11, e60_12, rfl⟩)
                  · intro j58 hj58 h
                    rcases bor s52 with hc56 | hc56
                    · have h := h.1 hc56
                      refine GoOps.q (v := .int .i64 y28) (want_yes rfl rfl rfl hc56) rfl (by decide) (q_move e55_6) ?_
                      refine GoOps.q (v := .bool (y28 == 3)) (want_yes rfl rfl rfl hc56) rfl (by decide) (q_eql rfl rfl) ?_
                      refine GoOps.q (v := .bool (y28 == 3)) rfl rfl (by decide) (q_pickT (btT rfl hc56) rfl) ?_
                      exact hj58 (y28 == 3) _ _ h (by exact ⟨e55_1, e55_9, e55_10, e55_11, e55_12, rfl⟩)
                    · have h := h.2 hc56
                      refine no_dst (want_no rfl rfl rfl hc56) rfl (by decide) ?_
                      refine no_dst (want_no rfl rfl rfl hc56) rfl (by decide) ?_
                      refine GoOps.q (v := .bool false) rfl rfl (by decide) (q_pickF (btF rfl hc56) rfl) ?_
                      exact hj58 false _ _ h (by exact ⟨e55_1, e55_9, e55_10, e55_11, e55_12, rfl⟩)
                · intro j53 hj53 h
                  rcases bor s47 with hc51 | hc51
                  · have h := h.1 hc51
                    refine GoOps.q (v := .bool y29) (want_yes rfl rfl rfl hc51) rfl (by decide) (q_move e50_7) ?_
                    refine GoOps.q (v := .bool y29) rfl rfl (by decide) (q_pickT (btT rfl hc51) rfl) ?_
                    exact hj53 y29 _ _ h (by exact ⟨e50_1, e50_6, e50_9, e50_10, e50_11, e50_12, rfl⟩)
                  · have h := h.2 hc51
                    refine no_dst (want_no rfl rfl rfl hc51) rfl (by decide) ?_
                    refine GoOps.q (v := .bool false) rfl rfl (by decide) (q_pickF (btF rfl hc51) rfl) ?_
                    exact hj53 false _ _ h (by exact ⟨e50_1, e50_6, e50_9, e50_10, e50_11, e50_12, rfl⟩)
              · intro j48 hj48 h
                rcases bor s42 with hc46 | hc46
                · have h := h.1 hc46
                  refine GoOps.q (v := .int .i64 y26) (want_yes rfl rfl rfl hc46) rfl (by decide) (q_move e45_5) ?_
                  refine GoOps.q (v := .bool (y26 == 9)) (want_yes rfl rfl rfl hc46) rfl (by decide) (q_eql rfl rfl) ?_
                  refine GoOps.q (v := .bool (y26 == 9)) rfl rfl (by decide) (q_pickT (btT rfl hc46) rfl) ?_
                  exact hj48 (y26 == 9) _ _ h (by exact ⟨e45_1, e45_6, e45_7, e45_9, e45_10, e45_11, e45_12, rfl⟩)
                · have h := h.2 hc46
                  refine no_dst (want_no rfl rfl rfl hc46) rfl (by decide) ?_
                  refine no_dst (want_no rfl rfl rfl hc46) rfl (by decide) ?_
                  refine GoOps.q (v := .bool false) rfl rfl (by decide) (q_pickF (btF rfl hc46) rfl) ?_
                  exact hj48 false _ _ h (by exact ⟨e45_1, e45_6, e45_7, e45_9, e45_10, e45_11, e45_12, rfl⟩)
            · intro j43 hj43 h
              rcases bor s37 with hc41 | hc41
              · have h := h.1 hc41
                refine GoOps.q (v := .int .i64 y24) (want_yes rfl rfl rfl hc41) rfl (by decide) (q_move e40_4) ?_
                refine GoOps.q (v := .bool (y24 == 0)) (want_yes rfl rfl rfl hc41) rfl (by decide) (q_eql rfl rfl) ?_
                refine GoOps.q (v := .bool (y24 == 0)) rfl rfl (by decide) (q_pickT (btT rfl hc41) rfl) ?_
                exact hj43 (y24 == 0) _ _ h (by exact ⟨e40_1, e40_5, e40_6, e40_7, e40_9, e40_10, e40_11, e40_12, rfl⟩)
              · have h := h.2 hc41
                refine no_dst (want_no rfl rfl rfl hc41) rfl (by decide) ?_
                refine no_dst (want_no rfl rfl rfl hc41) rfl (by decide) ?_
                refine GoOps.q (v := .bool false) rfl rfl (by decide) (q_pickF (btF rfl hc41) rfl) ?_
                exact hj43 false _ _ h (by exact ⟨e40_1, e40_5, e40_6, e40_7, e40_9, e40_10, e40_11, e40_12, rfl⟩)
          · intro j38 hj38 h
            rcases bor (y20 == 10) with hc36 | hc36
            · have h := h.1 hc36
              refine GoOps.q (v := .int .i64 y22) (want_yes rfl rfl rfl hc36) rfl (by decide) (q_move rfl) ?_
              refine GoOps.q (v := .bool (y22 == 0)) (want_yes rfl rfl rfl hc36) rfl (by decide) (q_eql rfl rfl) ?_
              refine GoOps.q (v := .bool (y22 == 0)) rfl rfl (by decide) (q_pickT (btT rfl hc36) rfl) ?_
              exact hj38 (y22 == 0) _ _ h (by exact ⟨e17_1, rfl, rfl, rfl, rfl, rfl, rfl, rfl, rfl, rfl⟩)
            · have h := h.2 hc36
              refine no_dst (want_no rfl rfl rfl hc36) rfl (by decide) ?_
              refine no_dst (want_no rfl rfl rfl hc36) rfl (by decide) ?_
              refine GoOps.q (v := .bool false) rfl rfl (by decide) (q_pickF (btF rfl hc36) rfl) ?_
              exact hj38 false _ _ h (by exact ⟨e17_1, rfl, rfl, rfl, rfl, rfl, rfl, rfl, rfl, rfl⟩)
      · intro j15 hj15 h
        rcases bor s9 with hc13 | hc13
        · have h := h.1 hc13
          refine no_dst (want_no rfl rfl rfl hc13) rfl (by decide) ?_
          refine no_dst (want_no rfl rfl rfl hc13) rfl (by decide) ?_
          refine GoOps.q (v := .bool true) rfl rfl (by decide) (q_pickT (btT rfl hc13) rfl) ?_
          exact hj15 true _ _ h (by exact ⟨e12_1, rfl⟩)
        · have h := h.2 hc13
          refine call_dst (want_yes rfl rfl rfl hc13) (by decide) body8 (window_New_int_s _ _ _ _ h) rfl ?_
          rintro _ H107 ⟨y108, rfl, h⟩
          refine GoOps.q (v := .bool (!(Option.isNone y108))) (want_yes rfl rfl rfl hc13) rfl (by decide) (q_neqPn Try.underlying24 rfl rfl) ?_
          refine GoOps.q (v := .bool (!(Option.isNone y108))) rfl rfl (by decide) (q_pickF (btF rfl hc13) rfl) ?_
          exact hj15 (!(Option.isNone y108)) _ _ h (by exact ⟨e12_1, rfl⟩)
    · intro j10 hj10 h
      rcases bor s4 with hc8 | hc8
      · have h := h.1 hc8
        refine no_dst (want_no rfl rfl rfl hc8) rfl (by decide) ?_
        refine no_dst (want_no rfl rfl rfl hc8) rfl (by decide) ?_
        refine GoOps.q (v := .bool true) rfl rfl (by decide) (q_pickT (btT rfl hc8) rfl) ?_
        exact hj10 true _ _ h (by exact ⟨e7_1, rfl⟩)
      · have h := h.2 hc8
        refine call_dst (want_yes rfl rfl rfl hc8) (by decide) body8 (window_New_int_s _ _ _ _ h) rfl ?_
        rintro _ H109 ⟨y110, rfl, h⟩
        refine GoOps.q (v := .bool (!(Option.isNone y110))) (want_yes rfl rfl rfl hc8) rfl (by decide) (q_neqPn Try.underlying24 rfl rfl) ?_
        refine GoOps.q (v := .bool (!(Option.isNone y110))) rfl rfl (by decide) (q_pickF (btF rfl hc8) rfl) ?_
        exact hj10 (!(Option.isNone y110)) _ _ h (by exact ⟨e7_1, rfl⟩)
  · intro j5 hj5 h
    rcases bor (Option.isNone y2) with hc3 | hc3
    · have h := h.1 hc3
      refine no_dst (want_no rfl rfl rfl hc3) rfl (by decide) ?_
      refine no_dst (want_no rfl rfl rfl hc3) rfl (by decide) ?_
      refine GoOps.q (v := .bool true) rfl rfl (by decide) (q_pickT (btT rfl hc3) rfl) ?_
      exact hj5 true _ _ h (by exact ⟨rfl, rfl⟩)
    · have h := h.2 hc3
      refine call_dst (want_yes rfl rfl rfl hc3) (by decide) body8 (window_New_int_s _ _ _ _ h) rfl ?_
      rintro _ H111 ⟨y112, rfl, h⟩
      refine GoOps.q (v := .bool (!(Option.isNone y112))) (want_yes rfl rfl rfl hc3) rfl (by decide) (q_neqPn Try.underlying24 rfl rfl) ?_
      refine GoOps.q (v := .bool (!(Option.isNone y112))) rfl rfl (by decide) (q_pickF (btF rfl hc3) rfl) ?_
      exact hj5 (!(Option.isNone y112)) _ _ h (by exact ⟨rfl, rfl⟩)

/-- keelson.keelsonref1.Mod -/
def keelsonref1_Mod (p0 : Int) (p1 : Int) (H : PH) (Q : Int → PH → Prop) : Prop :=
  mNe p1 <|
  mJoin (fun (s2 : Int) (H4 : PH) =>
  Q s2 H4)
  fun j3 =>
  mIf (decide ((Int.tmod p0 p1) < 0))
  (j3 (IntKind.wrap .i64 ((Int.tmod p0 p1) + p1)) H)
  (j3 (Int.tmod p0 p1) H)

set_option maxRecDepth 20000 in
set_option maxHeartbeats 1000000 in
theorem keelsonref1_Mod_s (p0 : Int) (p1 : Int) (H : PH) (Q : Int → PH → Prop) (h : keelsonref1_Mod p0 p1 H Q) :
    CallsH Try.prog 26 #[.int .i64 p0, .int .i64 p1] H (fun v H' => ∃ (r0 : Int), v = .int .i64 r0 ∧ Q r0 H') := by
  unfold keelsonref1_Mod at h
  refine callsH_of_go Try.func26 rfl Try.ntmps26 (Nat.le_of_ble_eq_true rfl) ?_
  refine Go.seq ?_
  refine Go.region rfl ?_
  refine GoOps.q (v := .int .i64 0) rfl rfl (by decide) (q_assign rfl) ?_
  refine GoOps.nil ?_
  refine Go.seq ?_
  refine Go.region rfl ?_
  refine GoOps.q (v := .int .i64 p0) rfl rfl (by decide) (q_move rfl) ?_
  refine GoOps.q (v := .int .i64 p1) rfl rfl (by decide) (q_move rfl) ?_
  obtain ⟨hn1, h⟩ := h
  refine GoOps.q (v := .int .i64 (Int.tmod p0 p1)) rfl rfl (by decide) (q_rem hn1 rfl rfl) ?_
  refine GoOps.q (v := .int .i64 (Int.tmod p0 p1)) rfl rfl (by decide) (q_assign rfl) ?_
  refine GoOps.nil ?_
  refine Go.seq ?_
  refine Go.seq ?_
  refine Go.region rfl ?_
  refine GoOps.q (v := .int .i64 (Int.tmod p0 p1)) rfl rfl (by decide) (q_move rfl) ?_
  refine GoOps.q (v := .bool (decide ((Int.tmod p0 p1) < 0))) rfl rfl (by decide) (q_lss rfl rfl) ?_
  refine GoOps.nil ?_
  refine join_go 1 (fun ρ (s2 : Int) => ρ 5 = .int .i64 s2) h ?_ ?_ <;> clear h
  · intro s2 H4 ρ h hE
    have e5_5 := hE
    refine Go.seq ?_
    refine Go.region rfl ?_
    refine GoOps.q (v := .int .i64 s2) rfl rfl (by decide) (q_move e5_5) ?_
    refine GoOps.q (v := .int .i64 s2) rfl rfl (by decide) (q_assign rfl) ?_
    refine GoOps.nil ?_
    exact Go.ret ⟨.inl rfl, _, _, DOk.nil, (resOk1 Try.results26 rfl), ⟨_, rfl, h⟩⟩
  · intro j3 hj3 h
    rcases bor (decide ((Int.tmod p0 p1) < 0)) with hc6 | hc6
    · have h := h.1 hc6
      refine Go.condT (btT rfl hc6) ?_
      refine Go.region rfl ?_
      refine GoOps.q (v := .int .i64 (Int.tmod p0 p1)) rfl rfl (by decide) (q_move rfl) ?_
      refine GoOps.q (v := .int .i64 p1) rfl rfl (by decide) (q_move rfl) ?_
      refine GoOps.q (v := .int .i64 (IntKind.wrap .i64 ((Int.tmod p0 p1) + p1))) rfl rfl (by decide) (q_add rfl rfl) ?_
      refine GoOps.q (v := .int .i64 (IntKind.wrap .i64 ((Int.tmod p0 p1) + p1))) rfl rfl (by decide) (q_assign rfl) ?_
      refine GoOps.nil ?_
      exact hj3 _ _ _ h rfl
    · have h := h.2 hc6
      refine Go.condF (btF rfl hc6) ?_
      refine Go.skip ?_
      exact hj3 _ _ _ h rfl

/-- keelson.keelsonalike.Round -/
def keelsonalike_Round (p0 : Int) (p1 : Int) (H : PH) (Q : Int → PH → Prop) : Prop :=
  keelsonref1_Mod p0 p1 H fun y2 H1 =>
  Q y2 H1

set_option maxRecDepth 20000 in
set_option maxHeartbeats 1000000 in
theorem keelsonalike_Round_s (p0 : Int) (p1 : Int) (H : PH) (Q : Int → PH → Prop) (h : keelsonalike_Round p0 p1 H Q) :
    CallsH Try.prog 9 #[.int .i64 p0, .int .i64 p1] H (fun v H' => ∃ (r0 : Int), v = .int .i64 r0 ∧ Q r0 H') := by
  unfold keelsonalike_Round at h
  refine callsH_of_go Try.func9 rfl Try.ntmps9 (Nat.le_of_ble_eq_true rfl) ?_
  refine Go.seq ?_
  refine Go.region rfl ?_
  refine GoOps.q (v := .int .i64 0) rfl rfl (by decide) (q_assign rfl) ?_
  refine GoOps.nil ?_
  refine Go.seq ?_
  refine Go.region rfl ?_
  refine GoOps.q (v := .int .i64 p0) rfl rfl (by decide) (q_move rfl) ?_
  refine GoOps.q (v := .int .i64 p1) rfl rfl (by decide) (q_move rfl) ?_
  refine call_dst rfl (by decide) body26 (keelsonref1_Mod_s _ _ _ _ h) rfl ?_
  rintro _ H1 ⟨y2, rfl, h⟩
  refine GoOps.q (v := .int .i64 y2) rfl rfl (by decide) (q_assign rfl) ?_
  refine GoOps.nil ?_
  exact Go.ret ⟨.inl rfl, _, _, DOk.nil, (resOk1 Try.results9 rfl), ⟨_, rfl, h⟩⟩

/-- keelson.keelsonlaw23.WindowOrders -/
def keelsonlaw23_WindowOrders (p0 : Int) (p1 : Sl) (H : PH) (Q : Bool → PH → Prop) : Prop :=
  mJoin (fun (s2 : Bool) (H4 : PH) =>
  mJoin (fun (s7 : Bool) (H9 : PH) =>
  mIf s7
  (keelsonlaw23_awake H9 fun y13 H12 =>
  Q y13 H12)
  (window_New_int p0 1 H9 fun y15 H14 =>
  mIf (Option.isNone y15)
  (Q false H14)
  (mMakeMap H14 fun m17 H18 =>
  mLoop (fun (s20 : Int × Int) (H23 : PH) (again21 : (Int × Int) → PH → Prop) =>
  mIf (decide (s20.2 < (p1.len : Int)))
  (mIdx p1 1 s20.2 fun a25 =>
  mLd (.int .i64) H23 a25 fun x27 =>
  keelsonalike_Round x27 60 H23 fun y30 H29 =>
  mMapGet H29 m17 (IntKind.wrap .i64 (1 + y30)) fun v31 ok32 =>
  window_Window_int_Put y15 (IntKind.wrap .i64 (1 + y30)) s20.2 H29 fun y35 H34 =>
  mJoin (fun (s36 : Unit) (H38 : PH) =>
  mJoin (fun (s40 : Int) (H42 : PH) =>
  window_Window_int_Next y15 H42 fun y45 H44 =>
  mIf (y45 != s40)
  (Q false H44)
  (again21 (s40, IntKind.wrap .i64 (s20.2 + 1)) H44))
  fun j41 =>
  mLoop (fun (s47 : Int × Int) (H50 : PH) (again48 : (Int × Int) → PH → Prop) =>
  mIf (decide (s47.2 < 20))
  (window_Window_int_Pop y15 H50 fun y53 y54 H52 =>
  mMapGet H52 m17 s47.1 fun v55 ok56 =>
  mJoin (fun (s59 : Bool) (H61 : PH) =>
  mIf s59
  (Q false H61)
  (mIf (!y54)
  (j41 s47.1 H61)
  (again48 (IntKind.wrap .i64 (s47.1 + 1), IntKind.wrap .i64 (s47.2 + 1)) H61)))
  fun j60 =>
  mIf (y54 != ok56)
  (j60 true H52)
  (mJoin (fun (s66 : Bool) (H68 : PH) =>
  j60 s66 H68)
  fun j67 =>
  mIf y54
  (mMapGet H52 m17 s47.1 fun v70 ok71 =>
  j67 (y53 != v70) H52)
  (j67 false H52)))
  (j41 s47.1 H50))
  (s20.1, 0) H38)
  fun j37 =>
  mJoin (fun (s74 : Bool) (H76 : PH) =>
  mIf s74
  (mIf (y35 != 9)
  (Q false H76)
  (j37 () H76))
  (mIf (decide ((IntKind.wrap .i64 (s20.1 + p0)) ≤ (IntKind.wrap .i64 (1 + y30))))
  (mIf (y35 != 10)
  (Q false H76)
  (j37 () H76))
  (mIf (y35 != 0)
  (Q false H76)
  (mMapPut H76 m17 (IntKind.wrap .i64 (1 + y30)) s20.2 fun H83 =>
  j37 () H83))))
  fun j75 =>
  mIf (decide ((IntKind.wrap .i64 (1 + y30)) < s20.1))
  (j75 true H34)
  (j75 ok32 H34))
  (keelsonlaw23_awake H23 fun y85 H84 =>
  Q y85 H84))
  (1, 0) H18)))
  fun j8 =>
  mIf s2
  (j8 true H4)
  (j8 (decide (120 < (p1.len : Int))) H4))
  fun j3 =>
  mIf (decide (p0 < 1))
  (j3 true H)
  (j3 (decide (16 < p0)) H)

set_option maxRecDepth 20000 in
set_option maxHeartbeats 1000000 in
theorem keelsonlaw23_WindowOrders_s (p0 : Int) (p1 : Sl) (H : PH) (Q : Bool → PH → Prop) (h : keelsonlaw23_WindowOrders p0 p1 H Q) :
    CallsH Try.prog 3 #[.int .i64 p0, Sl.v p1] H (fun v H' => ∃ (r0 : Bool), v = .bool r0 ∧ Q r0 H') := by
  unfold keelsonlaw23_WindowOrders at h
  refine callsH_of_go Try.func3 rfl Try.ntmps3 (Nat.le_of_ble_eq_true rfl) ?_
  refine Go.seq ?_
  refine Go.region rfl ?_
  refine GoOps.q (v := .bool false) rfl rfl (by decide) (q_assign rfl) ?_
  refine GoOps.nil ?_
  refine Go.seq ?_
  refine Go.seq ?_
  refine Go.region rfl ?_
  refine GoOps.q (v := .int .i64 p0) rfl rfl (by decide) (q_move rfl) ?_
  refine GoOps.q (v := .bool (decide (p0 < 1))) rfl rfl (by decide) (q_lss rfl rfl) ?_
  refine GoOps.q (v := .bool (decide (p0 < 1))) rfl rfl (by decide) (q_move rfl) ?_
  refine join_ops 3 (fun ρ (s2 : Bool) => ρ 0 = .int .i64 p0 ∧ ρ 1 = Sl.v p1 ∧ ρ 23 = .bool s2) h ?_ ?_ <;> clear h
  · intro s2 H4 ρ h hE
    obtain ⟨e5_0, e5_1, e5_23⟩ := hE
    refine GoOps.q (v := .bool s2) rfl rfl (by decide) (q_move e5_23) ?_
    refine join_ops 4 (fun ρ (s7 : Bool) => ρ 0 = .int .i64 p0 ∧ ρ 1 = Sl.v p1 ∧ ρ 28 = .bool s7) h ?_ ?_ <;> clear h
    · intro s7 H9 ρ h hE
      obtain ⟨e10_0, e10_1, e10_28⟩ := hE
      refine GoOps.nil ?_
      rcases bor s7 with hc11 | hc11
      · have h := h.1 hc11
        refine Go.condT (btT e10_28 hc11) ?_
        refine Go.seq ?_
        refine Go.region rfl ?_
        refine call_dst rfl (by decide) body7 (keelsonlaw23_awake_s _ _ h) rfl ?_
        rintro _ H12 ⟨y13, rfl, h⟩
        refine GoOps.q (v := .bool y13) rfl rfl (by decide) (q_assign rfl) ?_
        refine GoOps.nil ?_
        exact Go.ret ⟨.inl rfl, _, _, DOk.nil, (resOk1 Try.results3 rfl), ⟨_, rfl, h⟩⟩
      · have h := h.2 hc11
        refine Go.condF (btF e10_28 hc11) ?_
        refine Go.skip ?_
        refine Go.seq ?_
        refine Go.region rfl ?_
        refine GoOps.q (v := .int .i64 p0) rfl rfl (by decide) (q_move e10_0) ?_
        refine call_dst rfl (by decide) body8 (window_New_int_s _ _ _ _ h) rfl ?_
        rintro _ H14 ⟨y15, rfl, h⟩
        refine GoOps.q (v := .pointer y15) rfl rfl (by decide) (q_assign rfl) ?_
        refine GoOps.nil ?_
        refine Go.seq ?_
        refine Go.seq ?_
        refine Go.region rfl ?_
        refine GoOps.q (v := .pointer y15) rfl rfl (by decide) (q_move rfl) ?_
        refine GoOps.q (v := .bool (Option.isNone y15)) rfl rfl (by decide) (q_eqlPn Try.underlying24 rfl rfl) ?_
        refine GoOps.nil ?_
        rcases bor (Option.isNone y15) with hc16 | hc16
        · have h := h.1 hc16
          refine Go.condT (btT rfl hc16) ?_
          refine Go.seq ?_
          refine Go.region rfl ?_
          refine GoOps.q (v := .bool false) rfl rfl (by decide) (q_assign rfl) ?_
          refine GoOps.nil ?_
          exact Go.ret ⟨.inl rfl, _, _, DOk.nil, (resOk1 Try.results3 rfl), ⟨_, rfl, h⟩⟩
        · have h := h.2 hc16
          refine Go.condF (btF rfl hc16) ?_
          refine Go.skip ?_
          refine Go.seq ?_
          refine Go.region rfl ?_
          refine op_dst rfl rfl (by decide) (do_makeMap fun m17 H18 hb19 => ?_) 
          have h := h m17 H18 hb19
          refine GoOps.q (v := .map m17) rfl rfl (by decide) (q_assign rfl) ?_
          refine GoOps.nil ?_
          refine Go.seq ?_
          refine Go.region rfl ?_
          refine GoOps.q (v := .int .i64 1) rfl rfl (by decide) (q_assign rfl) ?_
          refine GoOps.nil ?_
          refine Go.seq ?_
          refine Go.seq ?_
          refine Go.region rfl ?_
          refine GoOps.q (v := .int .i64 0) rfl rfl (by decide) (q_assign rfl) ?_
          refine GoOps.nil ?_
          refine Go.block ?_
          refine loop_go (fun ρ (s20 : Int × Int) => ρ 0 = .int .i64 p0 ∧ ρ 1 = Sl.v p1 ∧ ρ 5 = .pointer y15 ∧ ρ 6 = .map m17 ∧ ρ 7 = .int .i64 s20.1 ∧ ρ 8 = .int .i64 s20.2) h ⟨e10_0, e10_1, rfl, rfl, rfl, rfl⟩ ?_
          clear h
          intro ρ s20 H23 again21 hE h hagain21
          obtain ⟨e22_0, e22_1, e22_5, e22_6, e22_7, e22_8⟩ := hE
          refine Go.seq ?_
          refine Go.seq ?_
          refine Go.region rfl ?_
          refine GoOps.q (v := .int .i64 s20.2) rfl rfl (by decide) (q_move e22_8) ?_
          refine GoOps.q (v := Sl.v p1) rfl rfl (by decide) (q_move e22_1) ?_
          refine GoOps.q (v := .int .i64 (p1.len : Int)) rfl rfl (by decide) (q_len Try.underlying22 rfl (ls1 rfl)) ?_
          refine GoOps.q (v := .bool (decide (s20.2 < (p1.len : Int)))) rfl rfl (by decide) (q_lss rfl rfl) ?_
          refine GoOps.nil ?_
          rcases bor (decide (s20.2 < (p1.len : Int))) with hc24 | hc24
          · have h := h.1 hc24
            refine Go.condT (btT rfl hc24) ?_
            refine Go.skip ?_
            refine Go.seq ?_
            refine Go.block ?_
            refine Go.seq ?_
            refine Go.region rfl ?_
            refine GoOps.q (v := Sl.v p1) rfl rfl (by decide) (q_move e22_1) ?_
            refine GoOps.q (v := .int .i64 s20.2) rfl rfl (by decide) (q_move e22_8) ?_
            obtain ⟨a25, ha26, h⟩ := h
            refine GoOps.q (v := .pointer (some a25)) rfl rfl (by decide) (q_idx slice22 ha26 rfl rfl) ?_
            obtain ⟨x27, hx28, h⟩ := h
            refine GoOps.q (v := .int .i64 x27) rfl rfl (by decide) (q_load scalar3 rfl hx28) ?_
            refine call_dst rfl (by decide) body9 (keelsonalike_Round_s _ _ _ _ h) rfl ?_
            rintro _ H29 ⟨y30, rfl, h⟩
            refine GoOps.q (v := .int .i64 (IntKind.wrap .i64 (1 + y30))) rfl rfl (by decide) (q_add rfl rfl) ?_
            refine GoOps.q (v := .int .i64 (IntKind.wrap .i64 (1 + y30))) rfl rfl (by decide) (q_assign rfl) ?_
            refine GoOps.nil ?_
            refine Go.seq ?_
            refine Go.region rfl ?_
            refine GoOps.q (v := .map m17) rfl rfl (by decide) (q_move e22_6) ?_
            refine GoOps.q (v := .int .i64 (IntKind.wrap .i64 (1 + y30))) rfl rfl (by decide) (q_move rfl) ?_
            obtain ⟨v31, ok32, hx33, h⟩ := h
            refine GoOps.q (v := .tuple #[.int .i64 v31, .bool ok32]) rfl rfl (by decide) (q_mapGet Try.underlying26 Try.underlying3 zero3 rfl rfl hx33) ?_
            refine GoOps.q (v := .tuple #[.int .i64 v31, .bool ok32]) rfl rfl (by decide) (q_move rfl) ?_
            refine GoOps.q (v := .int .i64 v31) rfl rfl (by decide) (q_extract rfl rfl) ?_
            refine GoOps.q (v := .bool ok32) rfl rfl (by decide) (q_extract rfl rfl) ?_
            refine GoOps.q (v := .int .i64 v31) rfl rfl (by decide) (q_assign rfl) ?_
            refine GoOps.q (v := .bool ok32) rfl rfl (by decide) (q_assign rfl) ?_
            refine GoOps.nil ?_
            refine Go.seq ?_
            refine Go.region rfl ?_
            refine GoOps.q (v := .pointer y15) rfl rfl (by decide) (q_move e22_5) ?_
            refine GoOps.q (v := .int .i64 (IntKind.wrap .i64 (1 + y30))) rfl rfl (by decide) (q_move rfl) ?_
            refine GoOps.q (v := .int .i64 s20.2) rfl rfl (by decide) (q_move e22_8) ?_
            refine call_dst rfl (by decide) body10 (window_Window_int_Put_s _ _ _ _ _ h) rfl ?_
            rintro _ H34 ⟨y35, rfl, h⟩
            refine GoOps.q (v := .int .i64 y35) rfl rfl (by decide) (q_assign rfl) ?_
            refine GoOps.nil ?_
            refine Go.seq ?_
            refine join_go 1 (fun ρ (s36 : Unit) => ρ 0 = .int .i64 p0 ∧ ρ 1 = Sl.v p1 ∧ ρ 5 = .pointer y15 ∧ ρ 6 = .map m17 ∧ ρ 7 = .int .i64 s20.1 ∧ ρ 8 = .int .i64 s20.2) h ?_ ?_ <;> clear h
            · intro s36 H38 ρ h hE
              obtain ⟨e39_0, e39_1, e39_5, e39_6, e39_7, e39_8⟩ := hE
              refine Go.seq ?_
              refine Go.seq ?_
              refine Go.region rfl ?_
              refine GoOps.q (v := .int .i64 0) rfl rfl (by decide) (q_assign rfl) ?_
              refine GoOps.nil ?_
              refine join_go 1 (fun ρ (s40 : Int) => ρ 0 = .int .i64 p0 ∧ ρ 1 = Sl.v p1 ∧ ρ 5 = .pointer y15 ∧ ρ 6 = .map m17 ∧ ρ 7 = .int .i64 s40 ∧ ρ 8 = .int .i64 s20.2) h ?_ ?_ <;> clear h
              · intro s40 H42 ρ h hE
                obtain ⟨e43_0, e43_1, e43_5, e43_6, e43_7, e43_8⟩ := hE
                refine Go.seq ?_
                refine Go.region rfl ?_
                refine GoOps.q (v := .pointer y15) rfl rfl (by decide) (q_move e43_5) ?_
                refine call_dst rfl (by decide) body12 (window_Window_int_Next_s _ _ _ h) rfl ?_
                rintro _ H44 ⟨y45, rfl, h⟩
                refine GoOps.q (v := .int .i64 s40) rfl rfl (by decide) (q_move e43_7) ?_
                refine GoOps.q (v := .bool (y45 != s40)) rfl rfl (by decide) (q_neq rfl rfl) ?_
                refine GoOps.nil ?_
                rcases bor (y45 != s40) with hc46 | hc46
                · have h := h.1 hc46
                  refine Go.condT (btT rfl hc46) ?_
                  refine Go.seq ?_
                  refine Go.region rfl ?_
                  refine GoOps.q (v := .bool false) rfl rfl (by decide) (q_assign rfl) ?_
                  refine GoOps.nil ?_
                  exact Go.ret ⟨.inl rfl, _, _, DOk.nil, (resOk1 Try.results3 rfl), ⟨_, rfl, h⟩⟩
                · have h := h.2 hc46
                  refine Go.condF (btF rfl hc46) ?_
                  refine Go.skip ?_
                  refine Go.inBlock ?_
                  refine Go.region rfl ?_
                  refine GoOps.q (v := .int .i64 s20.2) rfl rfl (by decide) (q_move e43_8) ?_
                  refine GoOps.q (v := .int .i64 (IntKind.wrap .i64 (s20.2 + 1))) rfl rfl (by decide) (q_add rfl rfl) ?_
                  refine GoOps.q (v := .int .i64 (IntKind.wrap .i64 (s20.2 + 1))) rfl rfl (by decide) (q_assign rfl) ?_
                  refine GoOps.nil ?_
                  exact hagain21 _ _ _ h ⟨e43_0, e43_1, e43_5, e43_6, e43_7, rfl⟩
              · intro j41 hj41 h
                refine Go.block ?_
                refine loop_go (fun ρ (s47 : Int × Int) => ρ 0 = .int .i64 p0 ∧ ρ 1 = Sl.v p1 ∧ ρ 5 = .pointer y15 ∧ ρ 6 = .map m17 ∧ ρ 7 = .int .i64 s47.1 ∧ ρ 8 = .int .i64 s20.2 ∧ ρ 13 = .int .i64 s47.2) h ⟨e39_0, e39_1, e39_5, e39_6, e39_7, e39_8, rfl⟩ ?_
                clear h
                intro ρ s47 H50 again48 hE h hagain48
                obtain ⟨e49_0, e49_1, e49_5, e49_6, e49_7, e49_8, e49_13⟩ := hE
                refine Go.seq ?_
                refine Go.seq ?_
                refine Go.region rfl ?_
                refine GoOps.q (v := .int .i64 s47.2) rfl rfl (by decide) (q_move e49_13) ?_
                refine GoOps.q (v := .bool (decide (s47.2 < 20))) rfl rfl (by decide) (q_lss rfl rfl) ?_
                refine GoOps.nil ?_
                rcases bor (decide (s47.2 < 20)) with hc51 | hc51
                · have h := h.1 hc51
                  refine Go.condT (btT rfl hc51) ?_
                  refine Go.skip ?_
                  refine Go.seq ?_
                  refine Go.block ?_
                  refine Go.seq ?_
                  refine Go.region rfl ?_
                  refine GoOps.q (v := .pointer y15) rfl rfl (by decide) (q_move e49_5) ?_
                  refine call_dst rfl (by decide) body11 (window_Window_int_Pop_s _ _ _ h) rfl ?_
                  rintro _ H52 ⟨y53, y54, rfl, h⟩
                  refine GoOps.q (v := .tuple #[.int .i64 y53, .bool y54]) rfl rfl (by decide) (q_move rfl) ?_
                  refine GoOps.q (v := .int .i64 y53) rfl rfl (by decide) (q_extract rfl rfl) ?_
                  refine GoOps.q (v := .bool y54) rfl rfl (by decide) (q_extract rfl rfl) ?_
                  refine GoOps.q (v := .int .i64 y53) rfl rfl (by decide) (q_assign rfl) ?_
                  refine GoOps.q (v := .bool y54) rfl rfl (by decide) (q_assign rfl) ?_
                  refine GoOps.nil ?_
                  refine Go.seq ?_
                  refine Go.region rfl ?_
                  refine GoOps.q (v := .map m17) rfl rfl (by decide) (q_move e49_6) ?_
                  refine GoOps.q (v := .int .i64 s47.1) rfl rfl (by decide) (q_move e49_7) ?_
                  obtain ⟨v55, ok56, hx57, h⟩ := h
                  refine GoOps.q (v := .tuple #[.int .i64 v55, .bool ok56]) rfl rfl (by decide) (q_mapGet Try.underlying26 Try.underlying3 zero3 rfl rfl hx57) ?_
                  refine GoOps.q (v := .tuple #[.int .i64 v55, .bool ok56]) rfl rfl (by decide) (q_move rfl) ?_
                  refine GoOps.q (v := .int .i64 v55) rfl rfl (by decide) (q_extract rfl rfl) ?_
                  refine GoOps.q (v := .bool ok56) rfl rfl (by decide) (q_extract rfl rfl) ?_
                  refine GoOps.q (v := .int .i64 v55) rfl rfl (by decide) (q_assign rfl) ?_
                  refine GoOps.q (v := .bool ok56) rfl rfl (by decide) (q_assign rfl) ?_
                  refine GoOps.nil ?_
                  refine Go.seq ?_
                  refine Go.seq ?_
                  refine Go.region rfl ?_
                  refine GoOps.q (v := .bool y54) rfl rfl (by decide) (q_move rfl) ?_
                  refine GoOps.q (v := .bool ok56) rfl rfl (by decide) (q_move rfl) ?_
                  refine GoOps.q (v := .bool (y54 != ok56)) rfl rfl (by decide) (q_neqB Try.underlying4 rfl rfl) ?_
                  refine GoOps.q (v := .bool (y54 != ok56)) rfl rfl (by decide) (q_move rfl) ?_
                  refine join_ops 9 (fun ρ (s59 : Bool) => ρ 0 = .int .i64 p0 ∧ ρ 1 = Sl.v p1 ∧ ρ 5 = .pointer y15 ∧ ρ 6 = .map m17 ∧ ρ 7 = .int .i64 s47.1 ∧ ρ 8 = .int .i64 s20.2 ∧ ρ 13 = .int .i64 s47.2 ∧ ρ 15 = .bool y54 ∧ ρ 106 = .bool s59) h ?_ ?_ <;> clear h
                  · intro s59 H61 ρ h hE
                    obtain ⟨e62_0, e62_1, e62_5, e62_6, e62_7, e62_8, e62_13, e62_15, e62_106⟩ := hE
                    refine GoOps.nil ?_
                    rcases bor s59 with hc63 | hc63
                    · have h := h.1 hc63
                      refine Go.condT (btT e62_106 hc63) ?_
                      refine Go.seq ?_
                      refine Go.region rfl ?_
                      refine GoOps.q (v := .bool false) rfl rfl (by decide) (q_assign rfl) ?_
                      refine GoOps.nil ?_
                      exact Go.ret ⟨.inl rfl, _, _, DOk.nil, (resOk1 Try.results3 rfl), ⟨_, rfl, h⟩⟩
                    · have h := h.2 hc63
                      refine Go.condF (btF e62_106 hc63) ?_
                      refine Go.skip ?_
                      refine Go.seq ?_
                      refine Go.seq ?_
                      refine Go.region rfl ?_
                      refine GoOps.q (v := .bool y54) rfl rfl (by decide) (q_move e62_15) ?_
                      refine GoOps.q (v := .bool (!y54)) rfl rfl (by decide) (q_not rfl) ?_
                      refine GoOps.nil ?_
                      rcases bor (!y54) with hc64 | hc64
                      · have h := h.1 hc64
                        refine Go.condT (btT rfl hc64) ?_
                        refine Go.exit rfl ?_
                        exact hj41 _ _ _ h ⟨e62_0, e62_1, e62_5, e62_6, e62_7, e62_8⟩
                      · have h := h.2 hc64
                        refine Go.condF (btF rfl hc64) ?_
                        refine Go.skip ?_
                        refine Go.region rfl ?_
                        refine GoOps.q (v := .int .i64 s47.1) rfl rfl (by decide) (q_move e62_7) ?_
                        refine GoOps.q (v := .int .i64 (IntKind.wrap .i64 (s47.1 + 1))) rfl rfl (by decide) (q_add rfl rfl) ?_
                        refine GoOps.q (v := .int .i64 (IntKind.wrap .i64 (s47.1 + 1))) rfl rfl (by decide) (q_assign rfl) ?_
                        refine GoOps.nil ?_
                        refine Go.inBlock ?_
                        refine Go.region rfl ?_
                        refine GoOps.q (v := .int .i64 s47.2) rfl rfl (by decide) (q_move e62_13) ?_
                        refine GoOps.q (v := .int .i64 (IntKind.wrap .i64 (s47.2 + 1))) rfl rfl (by decide) (q_add rfl rfl) ?_
                        refine GoOps.q (v := .int .i64 (IntKind.wrap .i64 (s47.2 + 1))) rfl rfl (by decide) (q_assign rfl) ?_
                        refine GoOps.nil ?_
                        exact hagain48 _ _ _ h ⟨e62_0, e62_1, e62_5, e62_6, rfl, e62_8, rfl⟩
                  · intro j60 hj60 h
                    rcases bor (y54 != ok56) with hc58 | hc58
                    · have h := h.1 hc58
                      refine no_dst (want_no rfl rfl rfl hc58) rfl (by decide) ?_
                      refine no_dst (want_no rfl rfl rfl hc58) rfl (by decide) ?_
                      refine no_dst (want_undef rfl rfl rfl) rfl (by decide) ?_
                      refine no_dst (want_undef rfl rfl rfl) rfl (by decide) ?_
                      refine no_dst (want_undef rfl rfl rfl) rfl (by decide) ?_
                      refine no_dst (want_undef rfl rfl rfl) rfl (by decide) ?_
                      refine no_dst (want_undef rfl rfl rfl) rfl (by decide) ?_
                      refine no_dst (want_no rfl rfl rfl hc58) rfl (by decide) ?_
                      refine GoOps.q (v := .bool true) rfl rfl (by decide) (q_pickT (btT rfl hc58) rfl) ?_
                      exact hj60 true _ _ h (by exact ⟨e49_0, e49_1, e49_5, e49_6, e49_7, e49_8, e49_13, rfl, rfl⟩)
                    · have h := h.2 hc58
                      refine GoOps.q (v := .bool y54) (want_yes rfl rfl rfl hc58) rfl (by decide) (q_move rfl) ?_
                      refine GoOps.q (v := .bool y54) (want_yes rfl rfl rfl hc58) rfl (by decide) (q_move rfl) ?_
                      refine join_ops 6 (fun ρ (s66 : Bool) => ρ 0 = .int .i64 p0 ∧ ρ 1 = Sl.v p1 ∧ ρ 5 = .pointer y15 ∧ ρ 6 = .map m17 ∧ ρ 7 = .int .i64 s47.1 ∧ ρ 8 = .int .i64 s20.2 ∧ ρ 13 = .int .i64 s47.2 ∧ ρ 15 = .bool y54 ∧ ρ 97 = .bool (y54 != ok56) ∧ ρ 105 = .bool s66) h ?_ ?_ <;> clear h
                      · intro s66 H68 ρ h hE
                        obtain ⟨e69_0, e69_1, e69_5, e69_6, e69_7, e69_8, e69_13, e69_15, e69_97, e69_105⟩ := hE
                        refine GoOps.q (v := .bool s66) rfl rfl (by decide) (q_pickF (btF e69_97 hc58) e69_105) ?_
                        exact hj60 s66 _ _ h (by exact ⟨e69_0, e69_1, e69_5, e69_6, e69_7, e69_8, e69_13, e69_15, rfl⟩)
                      · intro j67 hj67 h
                        rcases bor y54 with hc65 | hc65
                        · have h := h.1 hc65
                          refine GoOps.q (v := .int .i64 y53) (want_yes rfl rfl rfl hc65) rfl (by decide) (q_move rfl) ?_
                          refine GoOps.q (v := .map m17) (want_yes rfl rfl rfl hc65) rfl (by decide) (q_move e49_6) ?_
                          refine GoOps.q (v := .int .i64 s47.1) (want_yes rfl rfl rfl hc65) rfl (by decide) (q_move e49_7) ?_
                          obtain ⟨v70, ok71, hx72, h⟩ := h
                          refine GoOps.q (v := .int .i64 v70) (want_yes rfl rfl rfl hc65) rfl (by decide) (q_mapGet1 Try.underlying26 Try.underlying3 zero3 rfl rfl hx72) ?_
                          refine GoOps.q (v := .bool (y53 != v70)) (want_yes rfl rfl rfl hc65) rfl (by decide) (q_neq rfl rfl) ?_
                          refine GoOps.q (v := .bool (y53 != v70)) (want_yes rfl rfl rfl hc58) rfl (by decide) (q_pickT (btT rfl hc65) rfl) ?_
                          exact hj67 (y53 != v70) _ _ h (by exact ⟨e49_0, e49_1, e49_5, e49_6, e49_7, e49_8, e49_13, rfl, rfl, rfl⟩)
                        · have h := h.2 hc65
                          refine no_dst (want_no rfl rfl rfl hc65) rfl (by decide) ?_
                          refine no_dst (want_no rfl rfl rfl hc65) rfl (by decide) ?_
                          refine no_dst (want_no rfl rfl rfl hc65) rfl (by decide) ?_
                          refine no_dst (want_no rfl rfl rfl hc65) rfl (by decide) ?_
                          refine no_dst (want_no rfl rfl rfl hc65) rfl (by decide) ?_
                          refine GoOps.q (v := .bool false) (want_yes rfl rfl rfl hc58) rfl (by decide) (q_pickF (btF rfl hc65) rfl) ?_
                          exact hj67 false _ _ h (by exact ⟨e49_0, e49_1, e49_5, e49_6, e49_7, e49_8, e49_13, rfl, rfl, rfl⟩)
                · have h := h.2 hc51
                  refine Go.condF (btF rfl hc51) ?_
                  refine Go.exit rfl ?_
                  exact hj41 _ _ _ h ⟨e49_0, e49_1, e49_5, e49_6, e49_7, e49_8⟩
            · intro j37 hj37 h
              refine Go.block ?_
              refine Go.seq ?_
              refine Go.region rfl ?_
              refine GoOps.q (v := .int .i64 (IntKind.wrap .i64 (1 + y30))) rfl rfl (by decide) (q_move rfl) ?_
              refine GoOps.q (v := .int .i64 s20.1) rfl rfl (by decide) (q_move e22_7) ?_
              refine GoOps.q (v := .bool (decide ((IntKind.wrap .i64 (1 + y30)) < s20.1))) rfl rfl (by decide) (q_lss rfl rfl) ?_
              refine GoOps.q (v := .bool (decide ((IntKind.wrap .i64 (1 + y30)) < s20.1))) rfl rfl (by decide) (q_move rfl) ?_
              refine join_ops 2 (fun ρ (s74 : Bool) => ρ 0 = .int .i64 p0 ∧ ρ 1 = Sl.v p1 ∧ ρ 5 = .pointer y15 ∧ ρ 6 = .map m17 ∧ ρ 7 = .int .i64 s20.1 ∧ ρ 8 = .int .i64 s20.2 ∧ ρ 9 = .int .i64 (IntKind.wrap .i64 (1 + y30)) ∧ ρ 12 = .int .i64 y35 ∧ ρ 68 = .bool s74) h ?_ ?_ <;> clear h
              · intro s74 H76 ρ h hE
                obtain ⟨e77_0, e77_1, e77_5, e77_6, e77_7, e77_8, e77_9, e77_12, e77_68⟩ := hE
                refine GoOps.q (v := .bool s74) rfl rfl (by decide) (q_assign e77_68) ?_
                refine GoOps.nil ?_
                rcases bor s74 with hc78 | hc78
                · have h := h.1 hc78
                  refine Go.condT (btT rfl hc78) ?_
                  refine Go.seq ?_
                  refine Go.region rfl ?_
                  refine GoOps.q (v := .int .i64 y35) rfl rfl (by decide) (q_move e77_12) ?_
                  refine GoOps.q (v := .bool (y35 != 9)) rfl rfl (by decide) (q_neq rfl rfl) ?_
                  refine GoOps.nil ?_
                  rcases bor (y35 != 9) with hc79 | hc79
                  · have h := h.1 hc79
                    refine Go.condT (btT rfl hc79) ?_
                    refine Go.seq ?_
                    refine Go.region rfl ?_
                    refine GoOps.q (v := .bool false) rfl rfl (by decide) (q_assign rfl) ?_
                    refine GoOps.nil ?_
                    exact Go.ret ⟨.inl rfl, _, _, DOk.nil, (resOk1 Try.results3 rfl), ⟨_, rfl, h⟩⟩
                  · have h := h.2 hc79
                    refine Go.condF (btF rfl hc79) ?_
                    refine Go.skip ?_
                    refine Go.inBlock ?_
                    exact hj37 _ _ _ h ⟨e77_0, e77_1, e77_5, e77_6, e77_7, e77_8⟩
                · have h := h.2 hc78
                  refine Go.condF (btF rfl hc78) ?_
                  refine Go.seq ?_
                  refine Go.region rfl ?_
                  refine GoOps.q (v := .int .i64 (IntKind.wrap .i64 (1 + y30))) rfl rfl (by decide) (q_move e77_9) ?_
                  refine GoOps.q (v := .int .i64 s20.1) rfl rfl (by decide) (q_move e77_7) ?_
                  refine GoOps.q (v := .int .i64 p0) rfl rfl (by decide) (q_move e77_0) ?_
                  refine GoOps.q (v := .int .i64 (IntKind.wrap .i64 (s20.1 + p0))) rfl rfl (by decide) (q_add rfl rfl) ?_
                  refine GoOps.q (v := .bool (decide ((IntKind.wrap .i64 (s20.1 + p0)) ≤ (IntKind.wrap .i64 (1 + y30))))) rfl rfl (by decide) (q_geq rfl rfl) ?_
                  refine GoOps.q (v := .bool (decide ((IntKind.wrap .i64 (s20.1 + p0)) ≤ (IntKind.wrap .i64 (1 + y30))))) rfl rfl (by decide) (q_assign rfl) ?_
                  refine GoOps.nil ?_
                  rcases bor (decide ((IntKind.wrap .i64 (s20.1 + p0)) ≤ (IntKind.wrap .i64 (1 + y30)))) with hc80 | hc80
                  · have h := h.1 hc80
                    refine Go.condT (btT rfl hc80) ?_
                    refine Go.seq ?_
                    refine Go.region rfl ?_
                    refine GoOps.q (v := .int .i64 y35) rfl rfl (by decide) (q_move e77_12) ?_
                    refine GoOps.q (v := .bool (y35 != 10)) rfl rfl (by decide) (q_neq rfl rfl) ?_
                    refine GoOps.nil ?_
                    rcases bor (y35 != 10) with hc81 | hc81
                    · have h := h.1 hc81
                      refine Go.condT (btT rfl hc81) ?_
                      refine Go.seq ?_
                      refine Go.region rfl ?_
                      refine GoOps.q (v := .bool false) rfl rfl (by decide) (q_assign rfl) ?_
                      refine GoOps.nil ?_
                      exact Go.ret ⟨.inl rfl, _, _, DOk.nil, (resOk1 Try.results3 rfl), ⟨_, rfl, h⟩⟩
                    · have h := h.2 hc81
                      refine Go.condF (btF rfl hc81) ?_
                      refine Go.skip ?_
                      refine Go.inBlock ?_
                      exact hj37 _ _ _ h ⟨e77_0, e77_1, e77_5, e77_6, e77_7, e77_8⟩
                  · have h := h.2 hc80
                    refine Go.condF (btF rfl hc80) ?_
                    refine Go.seq ?_
                    refine Go.seq ?_
                    refine Go.region rfl ?_
                    refine GoOps.q (v := .int .i64 y35) rfl rfl (by decide) (q_move e77_12) ?_
                    refine GoOps.q (v := .bool (y35 != 0)) rfl rfl (by decide) (q_neq rfl rfl) ?_
                    refine GoOps.nil ?_
                    rcases bor (y35 != 0) with hc82 | hc82
                    · have h := h.1 hc82
                      refine Go.condT (btT rfl hc82) ?_
                      refine Go.seq ?_
                      refine Go.region rfl ?_
                      refine GoOps.q (v := .bool false) rfl rfl (by decide) (q_assign rfl) ?_
                      refine GoOps.nil ?_
                      exact Go.ret ⟨.inl rfl, _, _, DOk.nil, (resOk1 Try.results3 rfl), ⟨_, rfl, h⟩⟩
                    · have h := h.2 hc82
                      refine Go.condF (btF rfl hc82) ?_
                      refine Go.skip ?_
                      refine Go.region rfl ?_
                      refine GoOps.q (v := .map m17) rfl rfl (by decide) (q_move e77_6) ?_
                      refine GoOps.q (v := .int .i64 (IntKind.wrap .i64 (1 + y30))) rfl rfl (by decide) (q_move e77_9) ?_
                      refine GoOps.q (v := .int .i64 s20.2) rfl rfl (by decide) (q_move e77_8) ?_
                      refine op_none rfl rfl (do_mapPut Try.underlying26 Try.underlying3 rfl rfl rfl h fun H83 h => ?_) 
                      refine GoOps.nil ?_
                      refine Go.inBlock ?_
                      exact hj37 _ _ _ h ⟨e77_0, e77_1, e77_5, e77_6, e77_7, e77_8⟩
              · intro j75 hj75 h
                rcases bor (decide ((IntKind.wrap .i64 (1 + y30)) < s20.1)) with hc73 | hc73
                · have h := h.1 hc73
                  refine no_dst (want_no rfl rfl rfl hc73) rfl (by decide) ?_
                  refine GoOps.q (v := .bool true) rfl rfl (by decide) (q_pickT (btT rfl hc73) rfl) ?_
                  exact hj75 true _ _ h (by exact ⟨e22_0, e22_1, e22_5, e22_6, e22_7, e22_8, rfl, rfl, rfl⟩)
                · have h := h.2 hc73
                  refine GoOps.q (v := .bool ok32) (want_yes rfl rfl rfl hc73) rfl (by decide) (q_move rfl) ?_
                  refine GoOps.q (v := .bool ok32) rfl rfl (by decide) (q_pickF (btF rfl hc73) rfl) ?_
                  exact hj75 ok32 _ _ h (by exact ⟨e22_0, e22_1, e22_5, e22_6, e22_7, e22_8, rfl, rfl, rfl⟩)
          · have h := h.2 hc24
            refine Go.condF (btF rfl hc24) ?_
            refine Go.exit rfl ?_
            refine Go.seq ?_
            refine Go.region rfl ?_
            refine call_dst rfl (by decide) body7 (keelsonlaw23_awake_s _ _ h) rfl ?_
            rintro _ H84 ⟨y85, rfl, h⟩
            refine GoOps.q (v := .bool y85) rfl rfl (by decide) (q_assign rfl) ?_
            refine GoOps.nil ?_
            exact Go.ret ⟨.inl rfl, _, _, DOk.nil, (resOk1 Try.results3 rfl), ⟨_, rfl, h⟩⟩
    · intro j8 hj8 h
      rcases bor s2 with hc6 | hc6
      · have h := h.1 hc6
        refine no_dst (want_no rfl rfl rfl hc6) rfl (by decide) ?_
        refine no_dst (want_no rfl rfl rfl hc6) rfl (by decide) ?_
        refine no_dst (want_no rfl rfl rfl hc6) rfl (by decide) ?_
        refine GoOps.q (v := .bool true) rfl rfl (by decide) (q_pickT (btT rfl hc6) rfl) ?_
        exact hj8 true _ _ h (by exact ⟨e5_0, e5_1, rfl⟩)
      · have h := h.2 hc6
        refine GoOps.q (v := Sl.v p1) (want_yes rfl rfl rfl hc6) rfl (by decide) (q_move e5_1) ?_
        refine GoOps.q (v := .int .i64 (p1.len : Int)) (want_yes rfl rfl rfl hc6) rfl (by decide) (q_len Try.underlying22 rfl (ls1 rfl)) ?_
        refine GoOps.q (v := .bool (decide (120 < (p1.len : Int)))) (want_yes rfl rfl rfl hc6) rfl (by decide) (q_gtr rfl rfl) ?_
        refine GoOps.q (v := .bool (decide (120 < (p1.len : Int)))) rfl rfl (by decide) (q_pickF (btF rfl hc6) rfl) ?_
        exact hj8 (decide (120 < (p1.len : Int))) _ _ h (by exact ⟨e5_0, e5_1, rfl⟩)
  · intro j3 hj3 h
    rcases bor (decide (p0 < 1)) with hc1 | hc1
    · have h := h.1 hc1
      refine no_dst (want_no rfl rfl rfl hc1) rfl (by decide) ?_
      refine no_dst (want_no rfl rfl rfl hc1) rfl (by decide) ?_
      refine GoOps.q (v := .bool true) rfl rfl (by decide) (q_pickT (btT rfl hc1) rfl) ?_
      exact hj3 true _ _ h (by exact ⟨rfl, rfl, rfl⟩)
    · have h := h.2 hc1
      refine GoOps.q (v := .int .i64 p0) (want_yes rfl rfl rfl hc1) rfl (by decide) (q_move rfl) ?_
      refine GoOps.q (v := .bool (decide (16 < p0))) (want_yes rfl rfl rfl hc1) rfl (by decide) (q_gtr rfl rfl) ?_
      refine GoOps.q (v := .bool (decide (16 < p0))) rfl rfl (by decide) (q_pickF (btF rfl hc1) rfl) ?_
      exact hj3 (decide (16 < p0)) _ _ h (by exact ⟨rfl, rfl, rfl⟩)

/-- keelson.keelsonlaw23.WindowHolds -/
def keelsonlaw23_WindowHolds (p0 : Int) (p1 : Int) (p2 : Sl) (p3 : Int) (H : PH) (Q : Bool → PH → Prop) : Prop :=
  mJoin (fun (s2 : Bool) (H4 : PH) =>
  mJoin (fun (s7 : Bool) (H9 : PH) =>
  mJoin (fun (s12 : Bool) (H14 : PH) =>
  mJoin (fun (s17 : Bool) (H19 : PH) =>
  mIf s17
  (keelsonlaw23_awake H19 fun y23 H22 =>
  Q y23 H22)
  (window_New_int p0 p1 H19 fun y25 H24 =>
  mIf (Option.isNone y25)
  (Q false H24)
  (mLoop (fun (s27 : Int) (H30 : PH) (again28 : Int → PH → Prop) =>
  mIf (decide (s27 < (p2.len : Int)))
  (mIdx p2 1 s27 fun a32 =>
  mLd (.int .i64) H30 a32 fun x34 =>
  keelsonalike_Round x34 (IntKind.wrap .i64 (p0 + 3)) H30 fun y37 H36 =>
  window_Window_int_Put y25 (IntKind.wrap .i64 ((IntKind.wrap .i64 (p1 + y37)) - 1)) (IntKind.wrap .i64 (3 * (IntKind.wrap .i64 ((IntKind.wrap .i64 (p1 + y37)) - 1)))) H36 fun y39 H38 =>
  again28 (IntKind.wrap .i64 (s27 + 1)) H38)
  (keelsonlaw23_all y25 99 H30 fun y41 y42 H40 =>
  keelsonalike_Round p3 17 H40 fun y44 H43 =>
  keelsonlaw23_all y25 y44 H43 fun y46 y47 H45 =>
  window_Window_int_Len y25 H45 fun y49 H48 =>
  mJoin (fun (s51 : Bool) (H53 : PH) =>
  mJoin (fun (s56 : Bool) (H58 : PH) =>
  mJoin (fun (s61 : Bool) (H63 : PH) =>
  mIf s61
  (Q false H63)
  (mLoop (fun (s66 : Int) (H69 : PH) (again67 : Int → PH → Prop) =>
  mIf (decide (s66 < (y41.len : Int)))
  (mIdx y41 1 s66 fun a71 =>
  mLd (.int .i64) H69 a71 fun x73 =>
  mJoin (fun (s76 : Bool) (H78 : PH) =>
  mJoin (fun (s81 : Bool) (H83 : PH) =>
  mJoin (fun (s86 : Bool) (H88 : PH) =>
  mIf s86
  (Q false H88)
  (again67 (IntKind.wrap .i64 (s66 + 1)) H88))
  fun j87 =>
  mIf s81
  (j87 true H83)
  (mJoin (fun (s92 : Bool) (H94 : PH) =>
  j87 s92 H94)
  fun j93 =>
  mIf (decide (0 < s66))
  (mIdx y41 1 s66 fun a96 =>
  mLd (.int .i64) H83 a96 fun x98 =>
  mIdx y41 1 (IntKind.wrap .i64 (s66 - 1)) fun a100 =>
  mLd (.int .i64) H83 a100 fun x102 =>
  j93 (decide (x98 ≤ x102)) H83)
  (j93 false H83)))
  fun j82 =>
  mIf s76
  (j82 true H78)
  (mIdx y42 1 s66 fun a104 =>
  mLd (.int .i64) H78 a104 fun x106 =>
  mIdx y41 1 s66 fun a108 =>
  mLd (.int .i64) H78 a108 fun x110 =>
  j82 (x106 != (IntKind.wrap .i64 (3 * x110))) H78))
  fun j77 =>
  mIf (decide (x73 < p1))
  (j77 true H69)
  (mIdx y41 1 s66 fun a112 =>
  mLd (.int .i64) H69 a112 fun x114 =>
  j77 (decide ((IntKind.wrap .i64 (p1 + p0)) ≤ x114)) H69))
  (window_Window_int_Next y25 H69 fun y117 H116 =>
  mJoin (fun (s119 : Bool) (H121 : PH) =>
  Q s119 H121)
  fun j120 =>
  mIf (y117 == p1)
  (keelsonlaw23_awake H116 fun y124 H123 =>
  j120 y124 H123)
  (j120 false H116)))
  0 H63))
  fun j62 =>
  mIf s56
  (j62 true H58)
  (mCut y41 1 0 (if (y41.len : Int) < y44 then (y41.len : Int) else y44) fun r126 =>
  keelsonalike_Ints y46 r126 H58 fun y128 H127 =>
  j62 (!y128) H127))
  fun j57 =>
  mIf s51
  (j57 true H53)
  (j57 ((y42.len : Int) != (y41.len : Int)) H53))
  fun j52 =>
  mIf ((y41.len : Int) != y49)
  (j52 true H48)
  (j52 (decide (p0 < (y41.len : Int))) H48)))
  0 H24)))
  fun j18 =>
  mIf s12
  (j18 true H14)
  (j18 (decide (60 < (p2.len : Int))) H14))
  fun j13 =>
  mIf s7
  (j13 true H9)
  (j13 (decide (1073741824 < p1)) H9))
  fun j8 =>
  mIf s2
  (j8 true H4)
  (j8 (decide (p1 < 1)) H4))
  fun j3 =>
  mIf (decide (p0 < 1))
  (j3 true H)
  (j3 (decide (16 < p0)) H)

set_option maxRecDepth 20000 in
set_option maxHeartbeats 1000000 in
theorem keelsonlaw23_WindowHolds_s (p0 : Int) (p1 : Int) (p2 : Sl) (p3 : Int) (H : PH) (Q : Bool → PH → Prop) (h : keelsonlaw23_WindowHolds p0 p1 p2 p3 H Q) :
    CallsH Try.prog 4 #[.int .i64 p0, .int .i64 p1, Sl.v p2, .int .i64 p3] H (fun v H' => ∃ (r0 : Bool), v = .bool r0 ∧ Q r0 H') := by
  unfold keelsonlaw23_WindowHolds at h
  refine callsH_of_go Try.func4 rfl Try.ntmps4 (Nat.le_of_ble_eq_true rfl) ?_
  refine Go.seq ?_
  refine Go.region rfl ?_
  refine GoOps.q (v := .bool false) rfl rfl (by decide) (q_assign rfl) ?_
  refine GoOps.nil ?_
  refine Go.seq ?_
  refine Go.seq ?_
  refine Go.region rfl ?_
  refine GoOps.q (v := .int .i64 p0) rfl rfl (by decide) (q_move rfl) ?_
  refine GoOps.q (v := .bool (decide (p0 < 1))) rfl rfl (by decide) (q_lss rfl rfl) ?_
  refine GoOps.q (v := .bool (decide (p0 < 1))) rfl rfl (by decide) (q_move rfl) ?_
  refine join_ops 3 (fun ρ (s2 : Bool) => ρ 0 = .int .i64 p0 ∧ ρ 1 = .int .i64 p1 ∧ ρ 2 = Sl.v p2 ∧ ρ 3 = .int .i64 p3 ∧ ρ 23 = .bool s2) h ?_ ?_ <;> clear h
  · intro s2 H4 ρ h hE
    obtain ⟨e5_0, e5_1, e5_2, e5_3, e5_23⟩ := hE
    refine GoOps.q (v := .bool s2) rfl rfl (by decide) (q_move e5_23) ?_
    refine join_ops 3 (fun ρ (s7 : Bool) => ρ 0 = .int .i64 p0 ∧ ρ 1 = .int .i64 p1 ∧ ρ 2 = Sl.v p2 ∧ ρ 3 = .int .i64 p3 ∧ ρ 27 = .bool s7) h ?_ ?_ <;> clear h
    · intro s7 H9 ρ h hE
      obtain ⟨e10_0, e10_1, e10_2, e10_3, e10_27⟩ := hE
      refine GoOps.q (v := .bool s7) rfl rfl (by decide) (q_move e10_27) ?_
      refine join_ops 3 (fun ρ (s12 : Bool) => ρ 0 = .int .i64 p0 ∧ ρ 1 = .int .i64 p1 ∧ ρ 2 = Sl.v p2 ∧ ρ 3 = .int .i64 p3 ∧ ρ 31 = .bool s12) h ?_ ?_ <;> clear h
      · intro s12 H14 ρ h hE
        obtain ⟨e15_0, e15_1, e15_2, e15_3, e15_31⟩ := hE
        refine GoOps.q (v := .bool s12) rfl rfl (by decide) (q_move e15_31) ?_
        refine join_ops 4 (fun ρ (s17 : Bool) => ρ 0 = .int .i64 p0 ∧ ρ 1 = .int .i64 p1 ∧ ρ 2 = Sl.v p2 ∧ ρ 3 = .int .i64 p3 ∧ ρ 36 = .bool s17) h ?_ ?_ <;> clear h
        · intro s17 H19 ρ h hE
          obtain ⟨e20_0, e20_1, e20_2, e20_3, e20_36⟩ := hE
          refine GoOps.nil ?_
          rcases bor s17 with hc21 | hc21
          · have h := h.1 hc21
            refine Go.condT (btT e20_36 hc21) ?_
            refine Go.seq ?_
            refine Go.region rfl ?_
            refine call_dst rfl (by decide) body7 (keelsonlaw23_awake_s _ _ h) rfl ?_
            rintro _ H22 ⟨y23, rfl, h⟩
            refine GoOps.q (v := .bool y23) rfl rfl (by decide) (q_assign rfl) ?_
            refine GoOps.nil ?_
            exact Go.ret ⟨.inl rfl, _, _, DOk.nil, (resOk1 Try.results4 rfl), ⟨_, rfl, h⟩⟩
          · have h := h.2 hc21
            refine Go.condF (btF e20_36 hc21) ?_
            refine Go.skip ?_
            refine Go.seq ?_
            refine Go.region rfl ?_
            refine GoOps.q (v := .int .i64 p0) rfl rfl (by decide) (q_move e20_0) ?_
            refine GoOps.q (v := .int .i64 p1) rfl rfl (by decide) (q_move e20_1) ?_
            refine call_dst rfl (by decide) body8 (window_New_int_s _ _ _ _ h) rfl ?_
            rintro _ H24 ⟨y25, rfl, h⟩
            refine GoOps.q (v := .pointer y25) rfl rfl (by decide) (q_assign rfl) ?_
            refine GoOps.nil ?_
            refine Go.seq ?_
            refine Go.seq ?_
            refine Go.region rfl ?_
            refine GoOps.q (v := .pointer y25) rfl rfl (by decide) (q_move rfl) ?_
            refine GoOps.q (v := .bool (Option.isNone y25)) rfl rfl (by decide) (q_eqlPn Try.underlying24 rfl rfl) ?_
            refine GoOps.nil ?_
            rcases bor (Option.isNone y25) with hc26 | hc26
            · have h := h.1 hc26
              refine Go.condT (btT rfl hc26) ?_
              refine Go.seq ?_
              refine Go.region rfl ?_
              refine GoOps.q (v := .bool false) rfl rfl (by decide) (q_assign rfl) ?_
              refine GoOps.nil ?_
              exact Go.ret ⟨.inl rfl, _, _, DOk.nil, (resOk1 Try.results4 rfl), ⟨_, rfl, h⟩⟩
            · have h := h.2 hc26
              refine Go.condF (btF rfl hc26) ?_
              refine Go.skip ?_
              refine Go.seq ?_
              refine Go.seq ?_
              refine Go.region rfl ?_
              refine GoOps.q (v := .int .i64 0) rfl rfl (by decide) (q_assign rfl) ?_
              refine GoOps.nil ?_
              refine Go.block ?_
              refine loop_go (fun ρ (s27 : Int) => ρ 0 = .int .i64 p0 ∧ ρ 1 = .int .i64 p1 ∧ ρ 2 = Sl.v p2 ∧ ρ 3 = .int .i64 p3 ∧ ρ 9 = .pointer y25 ∧ ρ 10 = .int .i64 s27) h ⟨e20_0, e20_1, e20_2, e20_3, rfl, rfl⟩ ?_
              clear h
              intro ρ s27 H30 again28 hE h hagain28
              obtain ⟨e29_0, e29_1, e29_2, e29_3, e29_9, e29_10⟩ := hE
              refine Go.seq ?_
              refine Go.seq ?_
              refine Go.region rfl ?_
              refine GoOps.q (v := .int .i64 s27) rfl rfl (by decide) (q_move e29_10) ?_
              refine GoOps.q (v := Sl.v p2) rfl rfl (by decide) (q_move e29_2) ?_
              refine GoOps.q (v := .int .i64 (p2.len : Int)) rfl rfl (by decide) (q_len Try.underlying22 rfl (ls1 rfl)) ?_
              refine GoOps.q (v := .bool (decide (s27 < (p2.len : Int)))) rfl rfl (by decide) (q_lss rfl rfl) ?_
              refine GoOps.nil ?_
              rcases bor (decide (s27 < (p2.len : Int))) with hc31 | hc31
              · have h := h.1 hc31
                refine Go.condT (btT rfl hc31) ?_
                refine Go.skip ?_
                refine Go.seq ?_
                refine Go.block ?_
                refine Go.seq ?_
                refine Go.region rfl ?_
                refine GoOps.q (v := .int .i64 p1) rfl rfl (by decide) (q_move e29_1) ?_
                refine GoOps.q (v := Sl.v p2) rfl rfl (by decide) (q_move e29_2) ?_
                refine GoOps.q (v := .int .i64 s27) rfl rfl (by decide) (q_move e29_10) ?_
                obtain ⟨a32, ha33, h⟩ := h
                refine GoOps.q (v := .pointer (some a32)) rfl rfl (by decide) (q_idx slice22 ha33 rfl rfl) ?_
                obtain ⟨x34, hx35, h⟩ := h
                refine GoOps.q (v := .int .i64 x34) rfl rfl (by decide) (q_load scalar3 rfl hx35) ?_
                refine GoOps.q (v := .int .i64 p0) rfl rfl (by decide) (q_move e29_0) ?_
                refine GoOps.q (v := .int .i64 (IntKind.wrap .i64 (p0 + 3))) rfl rfl (by decide) (q_add rfl rfl) ?_
                refine call_dst rfl (by decide) body9 (keelsonalike_Round_s _ _ _ _ h) rfl ?_
                rintro _ H36 ⟨y37, rfl, h⟩
                refine GoOps.q (v := .int .i64 (IntKind.wrap .i64 (p1 + y37))) rfl rfl (by decide) (q_add rfl rfl) ?_
                refine GoOps.q (v := .int .i64 (IntKind.wrap .i64 ((IntKind.wrap .i64 (p1 + y37)) - 1))) rfl rfl (by decide) (q_sub rfl rfl) ?_
                refine GoOps.q (v := .int .i64 (IntKind.wrap .i64 ((IntKind.wrap .i64 (p1 + y37)) - 1))) rfl rfl (by decide) (q_assign rfl) ?_
                refine GoOps.nil ?_
                refine Go.region rfl ?_
                refine GoOps.q (v := .pointer y25) rfl rfl (by decide) (q_move e29_9) ?_
                refine GoOps.q (v := .int .i64 (IntKind.wrap .i64 ((IntKind.wrap .i64 (p1 + y37)) - 1))) rfl rfl (by decide) (q_move rfl) ?_
                refine GoOps.q (v := .int .i64 (IntKind.wrap .i64 ((IntKind.wrap .i64 (p1 + y37)) - 1))) rfl rfl (by decide) (q_move rfl) ?_
                refine GoOps.q (v := .int .i64 (IntKind.wrap .i64 (3 * (IntKind.wrap .i64 ((IntKind.wrap .i64 (p1 + y37)) - 1))))) rfl rfl (by decide) (q_mul rfl rfl) ?_
                refine call_dst rfl (by decide) body10 (window_Window_int_Put_s _ _ _ _ _ h) rfl ?_
                rintro _ H38 ⟨y39, rfl, h⟩
                refine GoOps.nil ?_
                refine Go.inBlock ?_
                refine Go.region rfl ?_
                refine GoOps.q (v := .int .i64 s27) rfl rfl (by decide) (q_move e29_10) ?_
                refine GoOps.q (v := .int .i64 (IntKind.wrap .i64 (s27 + 1))) rfl rfl (by decide) (q_add rfl rfl) ?_
                refine GoOps.q (v := .int .i64 (IntKind.wrap .i64 (s27 + 1))) rfl rfl (by decide) (q_assign rfl) ?_
                refine GoOps.nil ?_
                exact hagain28 _ _ _ h ⟨e29_0, e29_1, e29_2, e29_3, e29_9, rfl⟩
              · have h := h.2 hc31
                refine Go.condF (btF rfl hc31) ?_
                refine Go.exit rfl ?_
                refine Go.seq ?_
                refine Go.region rfl ?_
                refine GoOps.q (v := .pointer y25) rfl rfl (by decide) (q_move e29_9) ?_
                refine call_dst rfl (by decide) body13 (keelsonlaw23_all_s _ _ _ _ h) rfl ?_
                rintro _ H40 ⟨y41, y42, rfl, h⟩
                refine GoOps.q (v := .tuple #[Sl.v y41, Sl.v y42]) rfl rfl (by decide) (q_move rfl) ?_
                refine GoOps.q (v := Sl.v y41) rfl rfl (by decide) (q_extract rfl rfl) ?_
                refine GoOps.q (v := Sl.v y42) rfl rfl (by decide) (q_extract rfl rfl) ?_
                refine GoOps.q (v := Sl.v y41) rfl rfl (by decide) (q_assign rfl) ?_
                refine GoOps.q (v := Sl.v y42) rfl rfl (by decide) (q_assign rfl) ?_
                refine GoOps.nil ?_
                refine Go.seq ?_
                refine Go.region rfl ?_
                refine GoOps.q (v := .int .i64 p3) rfl rfl (by decide) (q_move e29_3) ?_
                refine call_dst rfl (by decide) body9 (keelsonalike_Round_s _ _ _ _ h) rfl ?_
                rintro _ H43 ⟨y44, rfl, h⟩
                refine GoOps.q (v := .int .i64 y44) rfl rfl (by decide) (q_assign rfl) ?_
                refine GoOps.nil ?_
                refine Go.seq ?_
                refine Go.region rfl ?_
                refine GoOps.q (v := .pointer y25) rfl rfl (by decide) (q_move e29_9) ?_
                refine GoOps.q (v := .int .i64 y44) rfl rfl (by decide) (q_move rfl) ?_
                refine call_dst rfl (by decide) body13 (keelsonlaw23_all_s _ _ _ _ h) rfl ?_
                rintro _ H45 ⟨y46, y47, rfl, h⟩
                refine GoOps.q (v := .tuple #[Sl.v y46, Sl.v y47]) rfl rfl (by decide) (q_move rfl) ?_
                refine GoOps.q (v := Sl.v y46) rfl rfl (by decide) (q_extract rfl rfl) ?_
                refine GoOps.q (v := Sl.v y47) rfl rfl (by decide) (q_extract rfl rfl) ?_
                refine GoOps.q (v := Sl.v y46) rfl rfl (by decide) (q_assign rfl) ?_
                refine GoOps.q (v := Sl.v y47) rfl rfl (by decide) (q_assign rfl) ?_
                refine GoOps.nil ?_
                refine Go.seq ?_
                refine Go.seq ?_
                refine Go.region rfl ?_
                refine GoOps.q (v := Sl.v y41) rfl rfl (by decide) (q_move rfl) ?_
                refine GoOps.q (v := .int .i64 (y41.len : Int)) rfl rfl (by decide) (q_len Try.underlying22 rfl (ls1 rfl)) ?_
                refine GoOps.q (v := .pointer y25) rfl rfl (by decide) (q_move e29_9) ?_
                refine call_dst rfl (by decide) body14 (window_Window_int_Len_s _ _ _ h) rfl ?_
                rintro _ H48 ⟨y49, rfl, h⟩
                refine GoOps.q (v := .bool ((y41.len : Int) != y49)) rfl rfl (by decide) (q_neq rfl rfl) ?_
                refine GoOps.q (v := .bool ((y41.len : Int) != y49)) rfl rfl (by decide) (q_move rfl) ?_
                refine join_ops 5 (fun ρ (s51 : Bool) => ρ 0 = .int .i64 p0 ∧ ρ 1 = .int .i64 p1 ∧ ρ 9 = .pointer y25 ∧ ρ 12 = Sl.v y41 ∧ ρ 13 = Sl.v y42 ∧ ρ 14 = .int .i64 y44 ∧ ρ 15 = Sl.v y46 ∧ ρ 87 = .bool s51) h ?_ ?_ <;> clear h
                · intro s51 H53 ρ h hE
                  obtain ⟨e54_0, e54_1, e54_9, e54_12, e54_13, e54_14, e54_15, e54_87⟩ := hE
                  refine GoOps.q (v := .bool s51) rfl rfl (by decide) (q_move e54_87) ?_
                  refine join_ops 6 (fun ρ (s56 : Bool) => ρ 0 = .int .i64 p0 ∧ ρ 1 = .int .i64 p1 ∧ ρ 9 = .pointer y25 ∧ ρ 12 = Sl.v y41 ∧ ρ 13 = Sl.v y42 ∧ ρ 14 = .int .i64 y44 ∧ ρ 15 = Sl.v y46 ∧ ρ 94 = .bool s56) h ?_ ?_ <;> clear h
                  · intro s56 H58 ρ h hE
                    obtain ⟨e59_0, e59_1, e59_9, e59_12, e59_13, e59_14, e59_15, e59_94⟩ := hE
                    refine GoOps.q (v := .bool s56) rfl rfl (by decide) (q_move e59_94) ?_
                    refine join_ops 10 (fun ρ (s61 : Bool) => ρ 0 = .int .i64 p0 ∧ ρ 1 = .int .i64 p1 ∧ ρ 9 = .pointer y25 ∧ ρ 12 = Sl.v y41 ∧ ρ 13 = Sl.v y42 ∧ ρ 105 = .bool s61) h ?_ ?_ <;> clear h
                    · intro s61 H63 ρ h hE
                      obtain ⟨e64_0, e64_1, e64_9, e64_12, e64_13, e64_105⟩ := hE
                      refine GoOps.nil ?_
                      rcases bor s61 with hc65 | hc65
                      · have h := h.1 hc65
                        refine Go.condT (btT e64_105 hc65) ?_
                        refine Go.seq ?_
                        refine Go.region rfl ?_
                        refine GoOps.q (v := .bool false) rfl rfl (by decide) (q_assign rfl) ?_
                        refine GoOps.nil ?_
                        exact Go.ret ⟨.inl rfl, _, _, DOk.nil, (resOk1 Try.results4 rfl), ⟨_, rfl, h⟩⟩
                      · have h := h.2 hc65
                        refine Go.condF (btF e64_105 hc65) ?_
                        refine Go.skip ?_
                        refine Go.seq ?_
                        refine Go.seq ?_
                        refine Go.region rfl ?_
                        refine GoOps.q (v := .int .i64 0) rfl rfl (by decide) (q_assign rfl) ?_
                        refine GoOps.nil ?_
                        refine Go.block ?_
                        refine loop_go (fun ρ (s66 : Int) => ρ 0 = .int .i64 p0 ∧ ρ 1 = .int .i64 p1 ∧ ρ 9 = .pointer y25 ∧ ρ 12 = Sl.v y41 ∧ ρ 13 = Sl.v y42 ∧ ρ 17 = .int .i64 s66) h ⟨e64_0, e64_1, e64_9, e64_12, e64_13, rfl⟩ ?_
                        clear h
                        intro ρ s66 H69 again67 hE h hagain67
                        obtain ⟨e68_0, e68_1, e68_9, e68_12, e68_13, e68_17⟩ := hE
                        refine Go.seq ?_
                        refine Go.seq ?_
                        refine Go.region rfl ?_
                        refine GoOps.q (v := .int .i64 s66) rfl rfl (by decide) (q_move e68_17) ?_
                        refine GoOps.q (v := Sl.v y41) rfl rfl (by decide) (q_move e68_12) ?_
                        refine GoOps.q (v := .int .i64 (y41.len : Int)) rfl rfl (by decide) (q_len Try.underlying22 rfl (ls1 rfl)) ?_
                        refine GoOps.q (v := .bool (decide (s66 < (y41.len : Int)))) rfl rfl (by decide) (q_lss rfl rfl) ?_
                        refine GoOps.nil ?_
                        rcases bor (decide (s66 < (y41.len : Int))) with hc70 | hc70
                        · have h := h.1 hc70
                          refine Go.condT (btT rfl hc70) ?_
                          refine Go.skip ?_
                          refine Go.seq ?_
                          refine Go.block ?_
                          refine Go.seq ?_
                          refine Go.draw mixed ?_
                          refine plan_pure (i := 0) (d := 112) (S2 := 1) (v := Sl.v y41) rfl (by decide +kernel) rfl (q_move e68_12) ?_
                          refine plan_pure (i := 1) (d := 113) (S2 := 3) (v := .int .i64 s66) rfl (by decide +kernel) rfl (q_move e68_17) ?_
                          obtain ⟨a71, ha72, h⟩ := h
                          refine plan_pure (i := 2) (d := 114) (S2 := 7) (v := .pointer (some a71)) rfl (by decide +kernel) rfl (q_idx slice22 ha72 rfl rfl) ?_
                          obtain ⟨x73, hx74, h⟩ := h
                          refine plan_load (i := 3) (d := 115) (S2 := 15) (v := .int .i64 x73) rfl (by decide +kernel) rfl (q_load scalar3 rfl hx74) ?_
                          refine plan_pure (i := 4) (d := 116) (S2 := 31) (v := .int .i64 p1) rfl (by decide +kernel) rfl (q_move e68_1) ?_
                          refine plan_pure (i := 5) (d := 117) (S2 := 63) (v := .bool (decide (x73 < p1))) rfl (by decide +kernel) rfl (q_lss rfl rfl) ?_
                          refine plan_pure (i := 6) (d := 118) (S2 := 127) (v := .bool (decide (x73 < p1))) rfl (by decide +kernel) rfl (q_move rfl) ?_
                          refine join_plan 65535 [10, 3] (fun ρ (s76 : Bool) => ρ 0 = .int .i64 p0 ∧ ρ 1 = .int .i64 p1 ∧ ρ 9 = .pointer y25 ∧ ρ 12 = Sl.v y41 ∧ ρ 13 = Sl.v y42 ∧ ρ 17 = .int .i64 s66 ∧ ρ 127 = .bool s76) h ?_ ?_ <;> clear h
                          · intro s76 H78 ρ h hE
                            obtain ⟨e79_0, e79_1, e79_9, e79_12, e79_13, e79_17, e79_127⟩ := hE
                            refine plan_pure (i := 16) (d := 128) (S2 := 131071) (v := .bool s76) rfl (by decide +kernel) rfl (q_move e79_127) ?_
                            refine join_plan 268435455 [24, 20, 10, 3] (fun ρ (s81 : Bool) => ρ 0 = .int .i64 p0 ∧ ρ 1 = .int .i64 p1 ∧ ρ 9 = .pointer y25 ∧ ρ 12 = Sl.v y41 ∧ ρ 13 = Sl.v y42 ∧ ρ 17 = .int .i64 s66 ∧ ρ 139 = .bool s81) h ?_ ?_ <;> clear h
                            · intro s81 H83 ρ h hE
                              obtain ⟨e84_0, e84_1, e84_9, e84_12, e84_13, e84_17, e84_139⟩ := hE
                              refine plan_pure (i := 28) (d := 140) (S2 := 536870911) (v := .bool s81) rfl (by decide +kernel) rfl (q_move e84_139) ?_
                              refine join_plan 17592186044415 [40, 35, 24, 20, 10, 3] (fun ρ (s86 : Bool) => ρ 0 = .int .i64 p0 ∧ ρ 1 = .int .i64 p1 ∧ ρ 9 = .pointer y25 ∧ ρ 12 = Sl.v y41 ∧ ρ 13 = Sl.v y42 ∧ ρ 17 = .int .i64 s66 ∧ ρ 155 = .bool s86) h ?_ ?_ <;> clear h
                              · intro s86 H88 ρ h hE
                                obtain ⟨e89_0, e89_1, e89_9, e89_12, e89_13, e89_17, e89_155⟩ := hE
                                refine plan_done (by decide +kernel) ?_
                                rcases bor s86 with hc90 | hc90
                                · have h := h.1 hc90
                                  refine Go.condT (btT e89_155 hc90) ?_
                                  refine Go.seq ?_
                                  refine Go.region rfl ?_
                                  refine GoOps.q (v := .bool false) rfl rfl (by decide) (q_assign rfl) ?_
                                  refine GoOps.nil ?_
                                  exact Go.ret ⟨.inl rfl, _, _, DOk.nil, (resOk1 Try.results4 rfl), ⟨_, rfl, h⟩⟩
                                · have h := h.2 hc90
                                  refine Go.condF (btF e89_155 hc90) ?_
                                  refine Go.skip ?_
                                  refine Go.inBlock ?_
                                  refine Go.region rfl ?_
                                  refine GoOps.q (v := .int .i64 s66) rfl rfl (by decide) (q_move e89_17) ?_
                                  refine GoOps.q (v := .int .i64 (IntKind.wrap .i64 (s66 + 1))) rfl rfl (by decide) (q_add rfl rfl) ?_
                                  refine GoOps.q (v := .int .i64 (IntKind.wrap .i64 (s66 + 1))) rfl rfl (by decide) (q_assign rfl) ?_
                                  refine GoOps.nil ?_
                                  exact hagain67 _ _ _ h ⟨e89_0, e89_1, e89_9, e89_12, e89_13, rfl⟩
                              · intro j87 hj87 h
                                rcases bor s81 with hc85 | hc85
                                · have h := h.1 hc85
                                  refine plan_skip (i := 29) (d := 141) (S2 := 1073741823) rfl (by decide +kernel) (want_no rfl rfl rfl hc85) ?_
                                  refine plan_skip (i := 30) (d := 142) (S2 := 2147483647) rfl (by decide +kernel) (want_no rfl rfl rfl hc85) ?_
                                  refine plan_skip (i := 31) (d := 143) (S2 := 4294967295) rfl (by decide +kernel) (want_no rfl rfl rfl hc85) ?_
                                  refine plan_skip (i := 32) (d := 144) (S2 := 8589934591) rfl (by decide +kernel) (want_undef rfl rfl rfl) ?_
                                  refine plan_skip (i := 33) (d := 145) (S2 := 17179869183) rfl (by decide +kernel) (want_undef rfl rfl rfl) ?_
                                  refine plan_skip (i := 34) (d := 146) (S2 := 34359738367) rfl (by decide +kernel) (want_undef rfl rfl rfl) ?_
                                  refine plan_skip (i := 35) (d := 147) (S2 := 68719476735) rfl (by decide +kernel) (want_undef rfl rfl rfl) ?_
                                  refine plan_skip (i := 36) (d := 148) (S2 := 137438953471) rfl (by decide +kernel) (want_undef rfl rfl rfl) ?_
                                  refine plan_skip (i := 37) (d := 149) (S2 := 274877906943) rfl (by decide +kernel) (want_undef rfl rfl rfl) ?_
                                  refine plan_skip (i := 38) (d := 150) (S2 := 549755813887) rfl (by decide +kernel) (want_undef rfl rfl rfl) ?_
                                  refine plan_skip (i := 39) (d := 151) (S2 := 1099511627775) rfl (by decide +kernel) (want_undef rfl rfl rfl) ?_
                                  refine plan_skip (i := 40) (d := 152) (S2 := 2199023255551) rfl (by decide +kernel) (want_undef rfl rfl rfl) ?_
                                  refine plan_skip (i := 41) (d := 153) (S2 := 4398046511103) rfl (by decide +kernel) (want_undef rfl rfl rfl) ?_
                                  refine plan_skip (i := 42) (d := 154) (S2 := 8796093022207) rfl (by decide +kernel) (want_no rfl rfl rfl hc85) ?_
                                  refine plan_pure (i := 43) (d := 155) (S2 := 17592186044415) (v := .bool true) rfl (by decide +kernel) rfl (q_pickT (btT rfl hc85) rfl) ?_
                                  refine plan_weaken (L2 := [40, 35, 24, 20, 10, 3]) (by decide) ?_
                                  exact hj87 _ _ _ h ⟨e84_0, e84_1, e84_9, e84_12, e84_13, e84_17, rfl⟩
                                · have h := h.2 hc85
                                  refine plan_pure (i := 29) (d := 141) (S2 := 1073741823) (v := .int .i64 s66) rfl (by decide +kernel) (want_yes rfl rfl rfl hc85) (q_move e84_17) ?_
                                  refine plan_pure (i := 30) (d := 142) (S2 := 2147483647) (v := .bool (decide (0 < s66))) rfl (by decide +kernel) (want_yes rfl rfl rfl hc85) (q_gtr rfl rfl) ?_
                                  refine plan_pure (i := 31) (d := 143) (S2 := 4294967295) (v := .bool (decide (0 < s66))) rfl (by decide +kernel) (want_yes rfl rfl rfl hc85) (q_move rfl) ?_
                                  refine join_plan 8796093022207 [40, 35, 24, 20, 10, 3] (fun ρ (s92 : Bool) => ρ 0 = .int .i64 p0 ∧ ρ 1 = .int .i64 p1 ∧ ρ 9 = .pointer y25 ∧ ρ 12 = Sl.v y41 ∧ ρ 13 = Sl.v y42 ∧ ρ 17 = .int .i64 s66 ∧ ρ 140 = .bool s81 ∧ ρ 154 = .bool s92) h ?_ ?_ <;> clear h
                                  · intro s92 H94 ρ h hE
                                    obtain ⟨e95_0, e95_1, e95_9, e95_12, e95_13, e95_17, e95_140, e95_154⟩ := hE
                                    refine plan_pure (i := 43) (d := 155) (S2 := 17592186044415) (v := .bool s92) rfl (by decide +kernel) rfl (q_pickF (btF e95_140 hc85) e95_154) ?_
                                    exact hj87 _ _ _ h ⟨e95_0, e95_1, e95_9, e95_12, e95_13, e95_17, rfl⟩
                                  · intro j93 hj93 h
                                    rcases bor (decide (0 < s66)) with hc91 | hc91
                                    · have h := h.1 hc91
                                      refine plan_pure (i := 32) (d := 144) (S2 := 8589934591) (v := Sl.v y41) rfl (by decide +kernel) (want_yes rfl rfl rfl hc91) (q_move e84_12) ?_
                                      refine plan_pure (i := 33) (d := 145) (S2 := 17179869183) (v := .int .i64 s66) rfl (by decide +kernel) (want_yes rfl rfl rfl hc91) (q_move e84_17) ?_
                                      obtain ⟨a96, ha97, h⟩ := h
                                      refine plan_pure (i := 34) (d := 146) (S2 := 34359738367) (v := .pointer (some a96)) rfl (by decide +kernel) (want_yes rfl rfl rfl hc91) (q_idx slice22 ha97 rfl rfl) ?_
                                      obtain ⟨x98, hx99, h⟩ := h
                                      refine plan_load (i := 35) (d := 147) (S2 := 68719476735) (v := .int .i64 x98) rfl (by decide +kernel) (want_yes rfl rfl rfl hc91) (q_load scalar3 rfl hx99) ?_
                                      refine plan_pure (i := 36) (d := 148) (S2 := 137438953471) (v := Sl.v y41) rfl (by decide +kernel) (want_yes rfl rfl rfl hc91) (q_move e84_12) ?_
                                      refine plan_pure (i := 37) (d := 149) (S2 := 274877906943) (v := .int .i64 s66) rfl (by decide +kernel) (want_yes rfl rfl rfl hc91) (q_move e84_17) ?_
                                      refine plan_pure (i := 38) (d := 150) (S2 := 549755813887) (v := .int .i64 (IntKind.wrap .i64 (s66 - 1))) rfl (by decide +kernel) (want_yes rfl rfl rfl hc91) (q_sub rfl rfl) ?_
                                      obtain ⟨a100, ha101, h⟩ := h
                                      refine plan_pure (i := 39) (d := 151) (S2 := 1099511627775) (v := .pointer (some a100)) rfl (by decide +kernel) (want_yes rfl rfl rfl hc91) (q_idx slice22 ha101 rfl rfl) ?_
                                      obtain ⟨x102, hx103, h⟩ := h
                                      refine plan_load (i := 40) (d := 152) (S2 := 2199023255551) (v := .int .i64 x102) rfl (by decide +kernel) (want_yes rfl rfl rfl hc91) (q_load scalar3 rfl hx103) ?_
                                      refine plan_pure (i := 41) (d := 153) (S2 := 4398046511103) (v := .bool (decide (x98 ≤ x102))) rfl (by decide +kernel) (want_yes rfl rfl rfl hc91) (q_leq rfl rfl) ?_
                                      refine plan_pure (i := 42) (d := 154) (S2 := 8796093022207) (v := .bool (decide (x98 ≤ x102))) rfl (by decide +kernel) (want_yes rfl rfl rfl hc85) (q_pickT (btT rfl hc91) rfl) ?_
                                      exact hj93 _ _ _ h ⟨e84_0, e84_1, e84_9, e84_12, e84_13, e84_17, rfl, rfl⟩
                                    · have h := h.2 hc91
                                      refine plan_skip (i := 32) (d := 144) (S2 := 8589934591) rfl (by decide +kernel) (want_no rfl rfl rfl hc91) ?_
                                      refine plan_skip (i := 33) (d := 145) (S2 := 17179869183) rfl (by decide +kernel) (want_no rfl rfl rfl hc91) ?_
                                      refine plan_skip (i := 34) (d := 146) (S2 := 34359738367) rfl (by decide +kernel) (want_no rfl rfl rfl hc91) ?_
                                      refine plan_skip (i := 35) (d := 147) (S2 := 68719476735) rfl (by decide +kernel) (want_no rfl rfl rfl hc91) ?_
                                      refine plan_skip (i := 36) (d := 148) (S2 := 137438953471) rfl (by decide +kernel) (want_no rfl rfl rfl hc91) ?_
                                      refine plan_skip (i := 37) (d := 149) (S2 := 274877906943) rfl (by decide +kernel) (want_no rfl rfl rfl hc91) ?_
                                      refine plan_skip (i := 38) (d := 150) (S2 := 549755813887) rfl (by decide +kernel) (want_no rfl rfl rfl hc91) ?_
                                      refine plan_skip (i := 39) (d := 151) (S2 := 1099511627775) rfl (by decide +kernel) (want_no rfl rfl rfl hc91) ?_
                                      refine plan_skip (i := 40) (d := 152) (S2 := 2199023255551) rfl (by decide +kernel) (want_no rfl rfl rfl hc91) ?_
                                      refine plan_skip (i := 41) (d := 153) (S2 := 4398046511103) rfl (by decide +kernel) (want_no rfl rfl rfl hc91) ?_
                                      refine plan_pure (i := 42) (d := 154) (S2 := 8796093022207) (v := .bool false) rfl (by decide +kernel) (want_yes rfl rfl rfl hc85) (q_pickF (btF rfl hc91) rfl) ?_
                                      refine plan_weaken (L2 := [40, 35, 24, 20, 10, 3]) (by decide) ?_
                                      exact hj93 _ _ _ h ⟨e84_0, e84_1, e84_9, e84_12, e84_13, e84_17, rfl, rfl⟩
                            · intro j82 hj82 h
                              rcases bor s76 with hc80 | hc80
                              · have h := h.1 hc80
                                refine plan_skip (i := 17) (d := 129) (S2 := 262143) rfl (by decide +kernel) (want_no rfl rfl rfl hc80) ?_
                                refine plan_skip (i := 18) (d := 130) (S2 := 524287) rfl (by decide +kernel) (want_no rfl rfl rfl hc80) ?_
                                refine plan_skip (i := 19) (d := 131) (S2 := 1048575) rfl (by decide +kernel) (want_no rfl rfl rfl hc80) ?_
                                refine plan_skip (i := 20) (d := 132) (S2 := 2097151) rfl (by decide +kernel) (want_no rfl rfl rfl hc80) ?_
                                refine plan_skip (i := 21) (d := 133) (S2 := 4194303) rfl (by decide +kernel) (want_no rfl rfl rfl hc80) ?_
                                refine plan_skip (i := 22) (d := 134) (S2 := 8388607) rfl (by decide +kernel) (want_no rfl rfl rfl hc80) ?_
                                refine plan_skip (i := 23) (d := 135) (S2 := 16777215) rfl (by decide +kernel) (want_no rfl rfl rfl hc80) ?_
                                refine plan_skip (i := 24) (d := 136) (S2 := 33554431) rfl (by decide +kernel) (want_no rfl rfl rfl hc80) ?_
                                refine plan_skip (i := 25) (d := 137) (S2 := 67108863) rfl (by decide +kernel) (want_no rfl rfl rfl hc80) ?_
                                refine plan_skip (i := 26) (d := 138) (S2 := 134217727) rfl (by decide +kernel) (want_no rfl rfl rfl hc80) ?_
                                refine plan_pure (i := 27) (d := 139) (S2 := 268435455) (v := .bool true) rfl (by decide +kernel) rfl (q_pickT (btT rfl hc80) rfl) ?_
                                refine plan_weaken (L2 := [24, 20, 10, 3]) (by decide) ?_
                                exact hj82 _ _ _ h ⟨e79_0, e79_1, e79_9, e79_12, e79_13, e79_17, rfl⟩
                              · have h := h.2 hc80
                                refine plan_pure (i := 17) (d := 129) (S2 := 262143) (v := Sl.v y42) rfl (by decide +kernel) (want_yes rfl rfl rfl hc80) (q_move e79_13) ?_
                                refine plan_pure (i := 18) (d := 130) (S2 := 524287) (v := .int .i64 s66) rfl (by decide +kernel) (want_yes rfl rfl rfl hc80) (q_move e79_17) ?_
                                obtain ⟨a104, ha105, h⟩ := h
                                refine plan_pure (i := 19) (d := 131) (S2 := 1048575) (v := .pointer (some a104)) rfl (by decide +kernel) (want_yes rfl rfl rfl hc80) (q_idx slice22 ha105 rfl rfl) ?_
                                obtain ⟨x106, hx107, h⟩ := h
                                refine plan_load (i := 20) (d := 132) (S2 := 2097151) (v := .int .i64 x106) rfl (by decide +kernel) (want_yes rfl rfl rfl hc80) (q_load scalar3 rfl hx107) ?_
                                refine plan_pure (i := 21) (d := 133) (S2 := 4194303) (v := Sl.v y41) rfl (by decide +kernel) (want_yes rfl rfl rfl hc80) (q_move e79_12) ?_
                                refine plan_pure (i := 22) (d := 134) (S2 := 8388607) (v := .int .i64 s66) rfl (by decide +kernel) (want_yes rfl rfl rfl hc80) (q_move e79_17) ?_
                                obtain ⟨a108, ha109, h⟩ := h
                                refine plan_pure (i := 23) (d := 135) (S2 := 16777215) (v := .pointer (some a108)) rfl (by decide +kernel) (want_yes rfl rfl rfl hc80) (q_idx slice22 ha109 rfl rfl) ?_
                                obtain ⟨x110, hx111, h⟩ := h
                                refine plan_load (i := 24) (d := 136) (S2 := 33554431) (v := .int .i64 x110) rfl (by decide +kernel) (want_yes rfl rfl rfl hc80) (q_load scalar3 rfl hx111) ?_
                                refine plan_pure (i := 25) (d := 137) (S2 := 67108863) (v := .int .i64 (IntKind.wrap .i64 (3 * x110))) rfl (by decide +kernel) (want_yes rfl rfl rfl hc80) (q_mul rfl rfl) ?_
                                refine plan_pure (i := 26) (d := 138) (S2 := 134217727) (v := .bool (x106 != (IntKind.wrap .i64 (3 * x110)))) rfl (by decide +kernel) (want_yes rfl rfl rfl hc80) (q_neq rfl rfl) ?_
                                refine plan_pure (i := 27) (d := 139) (S2 := 268435455) (v := .bool (x106 != (IntKind.wrap .i64 (3 * x110)))) rfl (by decide +kernel) rfl (q_pickF (btF rfl hc80) rfl) ?_
                                exact hj82 _ _ _ h ⟨e79_0, e79_1, e79_9, e79_12, e79_13, e79_17, rfl⟩
                          · intro j77 hj77 h
                            rcases bor (decide (x73 < p1)) with hc75 | hc75
                            · have h := h.1 hc75
                              refine plan_skip (i := 7) (d := 119) (S2 := 255) rfl (by decide +kernel) (want_no rfl rfl rfl hc75) ?_
                              refine plan_skip (i := 8) (d := 120) (S2 := 511) rfl (by decide +kernel) (want_no rfl rfl rfl hc75) ?_
                              refine plan_skip (i := 9) (d := 121) (S2 := 1023) rfl (by decide +kernel) (want_no rfl rfl rfl hc75) ?_
                              refine plan_skip (i := 10) (d := 122) (S2 := 2047) rfl (by decide +kernel) (want_no rfl rfl rfl hc75) ?_
                              refine plan_skip (i := 11) (d := 123) (S2 := 4095) rfl (by decide +kernel) (want_no rfl rfl rfl hc75) ?_
                              refine plan_skip (i := 12) (d := 124) (S2 := 8191) rfl (by decide +kernel) (want_no rfl rfl rfl hc75) ?_
                              refine plan_skip (i := 13) (d := 125) (S2 := 16383) rfl (by decide +kernel) (want_no rfl rfl rfl hc75) ?_
                              refine plan_skip (i := 14) (d := 126) (S2 := 32767) rfl (by decide +kernel) (want_no rfl rfl rfl hc75) ?_
                              refine plan_pure (i := 15) (d := 127) (S2 := 65535) (v := .bool true) rfl (by decide +kernel) rfl (q_pickT (btT rfl hc75) rfl) ?_
                              refine plan_weaken (L2 := [10, 3]) (by decide) ?_
                              exact hj77 _ _ _ h ⟨e68_0, e68_1, e68_9, e68_12, e68_13, e68_17, rfl⟩
                            · have h := h.2 hc75
                              refine plan_pure (i := 7) (d := 119) (S2 := 255) (v := Sl.v y41) rfl (by decide +kernel) (want_yes rfl rfl rfl hc75) (q_move e68_12) ?_
                              refine plan_pure (i := 8) (d := 120) (S2 := 511) (v := .int .i64 s66) rfl (by decide +kernel) (want_yes rfl rfl rfl hc75) (q_move e68_17) ?_
                              obtain ⟨a112, ha113, h⟩ := h
                              refine plan_pure (i := 9) (d := 121) (S2 := 1023) (v := .pointer (some a112)) rfl (by decide +kernel) (want_yes rfl rfl rfl hc75) (q_idx slice22 ha113 rfl rfl) ?_
                              obtain ⟨x114, hx115, h⟩ := h
                              refine plan_load (i := 10) (d := 122) (S2 := 2047) (v := .int .i64 x114) rfl (by decide +kernel) (want_yes rfl rfl rfl hc75) (q_load scalar3 rfl hx115) ?_
                              refine plan_pure (i := 11) (d := 123) (S2 := 4095) (v := .int .i64 p1) rfl (by decide +kernel) (want_yes rfl rfl rfl hc75) (q_move e68_1) ?_
                              refine plan_pure (i := 12) (d := 124) (S2 := 8191) (v := .int .i64 p0) rfl (by decide +kernel) (want_yes rfl rfl rfl hc75) (q_move e68_0) ?_
                              refine plan_pure (i := 13) (d := 125) (S2 := 16383) (v := .int .i64 (IntKind.wrap .i64 (p1 + p0))) rfl (by decide +kernel) (want_yes rfl rfl rfl hc75) (q_add rfl rfl) ?_
                              refine plan_pure (i := 14) (d := 126) (S2 := 32767) (v := .bool (decide ((IntKind.wrap .i64 (p1 + p0)) ≤ x114))) rfl (by decide +kernel) (want_yes rfl rfl rfl hc75) (q_geq rfl rfl) ?_
                              refine plan_pure (i := 15) (d := 127) (S2 := 65535) (v := .bool (decide ((IntKind.wrap .i64 (p1 + p0)) ≤ x114))) rfl (by decide +kernel) rfl (q_pickF (btF rfl hc75) rfl) ?_
                              exact hj77 _ _ _ h ⟨e68_0, e68_1, e68_9, e68_12, e68_13, e68_17, rfl⟩
                        · have h := h.2 hc70
                          refine Go.condF (btF rfl hc70) ?_
                          refine Go.exit rfl ?_
                          refine Go.seq ?_
                          refine Go.region rfl ?_
                          refine GoOps.q (v := .pointer y25) rfl rfl (by decide) (q_move e68_9) ?_
                          refine call_dst rfl (by decide) body12 (window_Window_int_Next_s _ _ _ h) rfl ?_
                          rintro _ H116 ⟨y117, rfl, h⟩
                          refine GoOps.q (v := .int .i64 p1) rfl rfl (by decide) (q_move e68_1) ?_
                          refine GoOps.q (v := .bool (y117 == p1)) rfl rfl (by decide) (q_eql rfl rfl) ?_
                          refine GoOps.q (v := .bool (y117 == p1)) rfl rfl (by decide) (q_move rfl) ?_
                          refine join_ops 2 (fun ρ (s119 : Bool) => ρ 162 = .bool s119) h ?_ ?_ <;> clear h
                          · intro s119 H121 ρ h hE
                            have e122_162 := hE
                            refine GoOps.q (v := .bool s119) rfl rfl (by decide) (q_assign e122_162) ?_
                            refine GoOps.nil ?_
                            exact Go.ret ⟨.inl rfl, _, _, DOk.nil, (resOk1 Try.results4 rfl), ⟨_, rfl, h⟩⟩
                          · intro j120 hj120 h
                            rcases bor (y117 == p1) with hc118 | hc118
                            · have h := h.1 hc118
                              refine call_dst (want_yes rfl rfl rfl hc118) (by decide) body7 (keelsonlaw23_awake_s _ _ h) rfl ?_
                              rintro _ H123 ⟨y124, rfl, h⟩
                              refine GoOps.q (v := .bool y124) rfl rfl (by decide) (q_pickT (btT rfl hc118) rfl) ?_
                              exact hj120 y124 _ _ h (by exact rfl)
                            · have h := h.2 hc118
                              refine no_dst (want_no rfl rfl rfl hc118) rfl (by decide) ?_
                              refine GoOps.q (v := .bool false) rfl rfl (by decide) (q_pickF (btF rfl hc118) rfl) ?_
                              exact hj120 false _ _ h (by exact rfl)
                    · intro j62 hj62 h
                      rcases bor s56 with hc60 | hc60
                      · have h := h.1 hc60
                        refine no_dst (want_no rfl rfl rfl hc60) rfl (by decide) ?_
                        refine no_dst (want_no rfl rfl rfl hc60) rfl (by decide) ?_
                        refine no_dst (want_no rfl rfl rfl hc60) rfl (by decide) ?_
                        refine no_dst (want_no rfl rfl rfl hc60) rfl (by decide) ?_
                        refine no_dst (want_no rfl rfl rfl hc60) rfl (by decide) ?_
                        refine no_dst (want_no rfl rfl rfl hc60) rfl (by decide) ?_
                        refine no_dst (want_no rfl rfl rfl hc60) rfl (by decide) ?_
                        refine no_dst (want_no rfl rfl rfl hc60) rfl (by decide) ?_
                        refine no_dst (want_no rfl rfl rfl hc60) rfl (by decide) ?_
                        refine GoOps.q (v := .bool true) rfl rfl (by decide) (q_pickT (btT rfl hc60) rfl) ?_
                        exact hj62 true _ _ h (by exact ⟨e59_0, e59_1, e59_9, e59_12, e59_13, rfl⟩)
                      · have h := h.2 hc60
                        refine GoOps.q (v := Sl.v y46) (want_yes rfl rfl rfl hc60) rfl (by decide) (q_move e59_15) ?_
                        refine GoOps.q (v := Sl.v y41) (want_yes rfl rfl rfl hc60) rfl (by decide) (q_move e59_12) ?_
                        refine GoOps.q (v := .int .i64 y44) (want_yes rfl rfl rfl hc60) rfl (by decide) (q_move e59_14) ?_
                        refine GoOps.q (v := Sl.v y41) (want_yes rfl rfl rfl hc60) rfl (by decide) (q_move e59_12) ?_
                        refine GoOps.q (v := .int .i64 (y41.len : Int)) (want_yes rfl rfl rfl hc60) rfl (by decide) (q_len Try.underlying22 rfl (ls1 rfl)) ?_
                        refine GoOps.q (v := .int .i64 (if (y41.len : Int) < y44 then (y41.len : Int) else y44)) (want_yes rfl rfl rfl hc60) rfl (by decide) (q_min2 rfl) ?_
                        obtain ⟨r126, hm125, h⟩ := h
                        refine GoOps.q (v := Sl.v r126) (want_yes rfl rfl rfl hc60) rfl (by decide) (q_cut slice22 hm125 rfl rfl ⟨_, rfl⟩) ?_
                        refine call_dst (want_yes rfl rfl rfl hc60) (by decide) body15 (keelsonalike_Ints_s _ _ _ _ h) rfl ?_
                        rintro _ H127 ⟨y128, rfl, h⟩
                        refine GoOps.q (v := .bool (!y128)) (want_yes rfl rfl rfl hc60) rfl (by decide) (q_not rfl) ?_
                        refine GoOps.q (v := .bool (!y128)) rfl rfl (by decide) (q_pickF (btF rfl hc60) rfl) ?_
                        exact hj62 (!y128) _ _ h (by exact ⟨e59_0, e59_1, e59_9, e59_12, e59_13, rfl⟩)
                  · intro j57 hj57 h
                    rcases bor s51 with hc55 | hc55
                    · have h := h.1 hc55
                      refine no_dst (want_no rfl rfl rfl hc55) rfl (by decide) ?_
                      refine no_dst (want_no rfl rfl rfl hc55) rfl (by decide) ?_
                      refine no_dst (want_no rfl rfl rfl hc55) rfl (by decide) ?_
                      refine no_dst (want_no rfl rfl rfl hc55) rfl (by decide) ?_
                      refine no_dst (want_no rfl rfl rfl hc55) rfl (by decide) ?_
                      refine GoOps.q (v := .bool true) rfl rfl (by decide) (q_pickT (btT rfl hc55) rfl) ?_
                      exact hj57 true _ _ h (by exact ⟨e54_0, e54_1, e54_9, e54_12, e54_13, e54_14, e54_15, rfl⟩)
                    · have h := h.2 hc55
                      refine GoOps.q (v := Sl.v y42) (want_yes rfl rfl rfl hc55) rfl (by decide) (q_move e54_13) ?_
                      refine GoOps.q (v := .int .i64 (y42.len : Int)) (want_yes rfl rfl rfl hc55) rfl (by decide) (q_len Try.underlying22 rfl (ls1 rfl)) ?_
                      refine GoOps.q (v := Sl.v y41) (want_yes rfl rfl rfl hc55) rfl (by decide) (q_move e54_12) ?_
                      refine GoOps.q (v := .int .i64 (y41.len : Int)) (want_yes rfl rfl rfl hc55) rfl (by decide) (q_len Try.underlying22 rfl (ls1 rfl)) ?_
                      refine GoOps.q (v := .bool ((y42.len : Int) != (y41.len : Int))) (want_yes rfl rfl rfl hc55) rfl (by decide) (q_neq rfl rfl) ?_
                      refine GoOps.q (v := .bool ((y42.len : Int) != (y41.len : Int))) rfl rfl (by decide) (q_pickF (btF rfl hc55) rfl) ?_
                      exact hj57 ((y42.len : Int) != (y41.len : Int)) _ _ h (by exact ⟨e54_0, e54_1, e54_9, e54_12, e54_13, e54_14, e54_15, rfl⟩)
                · intro j52 hj52 h
                  rcases bor ((y41.len : Int) != y49) with hc50 | hc50
                  · have h := h.1 hc50
                    refine no_dst (want_no rfl rfl rfl hc50) rfl (by decide) ?_
                    refine no_dst (want_no rfl rfl rfl hc50) rfl (by decide) ?_
                    refine no_dst (want_no rfl rfl rfl hc50) rfl (by decide) ?_
                    refine no_dst (want_no rfl rfl rfl hc50) rfl (by decide) ?_
                    refine GoOps.q (v := .bool true) rfl rfl (by decide) (q_pickT (btT rfl hc50) rfl) ?_
                    exact hj52 true _ _ h (by exact ⟨e29_0, e29_1, e29_9, rfl, rfl, rfl, rfl, rfl⟩)
                  · have h := h.2 hc50
                    refine GoOps.q (v := Sl.v y41) (want_yes rfl rfl rfl hc50) rfl (by decide) (q_move rfl) ?_
                    refine GoOps.q (v := .int .i64 (y41.len : Int)) (want_yes rfl rfl rfl hc50) rfl (by decide) (q_len Try.underlying22 rfl (ls1 rfl)) ?_
                    refine GoOps.q (v := .int .i64 p0) (want_yes rfl rfl rfl hc50) rfl (by decide) (q_move e29_0) ?_
                    refine GoOps.q (v := .bool (decide (p0 < (y41.len : Int)))) (want_yes rfl rfl rfl hc50) rfl (by decide) (q_gtr rfl rfl) ?_
                    refine GoOps.q (v := .bool (decide (p0 < (y41.len : Int)))) rfl rfl (by decide) (q_pickF (btF rfl hc50) rfl) ?_
                    exact hj52 (decide (p0 < (y41.len : Int))) _ _ h (by exact ⟨e29_0, e29_1, e29_9, rfl, rfl, rfl, rfl, rfl⟩)
        · intro j18 hj18 h
          rcases bor s12 with hc16 | hc16
          · have h := h.1 hc16
            refine no_dst (want_no rfl rfl rfl hc16) rfl (by decide) ?_
            refine no_dst (want_no rfl rfl rfl hc16) rfl (by decide) ?_
            refine no_dst (want_no rfl rfl rfl hc16) rfl (by decide) ?_
            refine GoOps.q (v := .bool true) rfl rfl (by decide) (q_pickT (btT rfl hc16) rfl) ?_
            exact hj18 true _ _ h (by exact ⟨e15_0, e15_1, e15_2, e15_3, rfl⟩)
          · have h := h.2 hc16
            refine GoOps.q (v := Sl.v p2) (want_yes rfl rfl rfl hc16) rfl (by decide) (q_move e15_2) ?_
            refine GoOps.q (v := .int .i64 (p2.len : Int)) (want_yes rfl rfl rfl hc16) rfl (by decide) (q_len Try.underlying22 rfl (ls1 rfl)) ?_
            refine GoOps.q (v := .bool (decide (60 < (p2.len : Int)))) (want_yes rfl rfl rfl hc16) rfl (by decide) (q_gtr rfl rfl) ?_
            refine GoOps.q (v := .bool (decide (60 < (p2.len : Int)))) rfl rfl (by decide) (q_pickF (btF rfl hc16) rfl) ?_
            exact hj18 (decide (60 < (p2.len : Int))) _ _ h (by exact ⟨e15_0, e15_1, e15_2, e15_3, rfl⟩)
      · intro j13 hj13 h
        rcases bor s7 with hc11 | hc11
        · have h := h.1 hc11
          refine no_dst (want_no rfl rfl rfl hc11) rfl (by decide) ?_
          refine no_dst (want_no rfl rfl rfl hc11) rfl (by decide) ?_
          refine GoOps.q (v := .bool true) rfl rfl (by decide) (q_pickT (btT rfl hc11) rfl) ?_
          exact hj13 true _ _ h (by exact ⟨e10_0, e10_1, e10_2, e10_3, rfl⟩)
        · have h := h.2 hc11
          refine GoOps.q (v := .int .i64 p1) (want_yes rfl rfl rfl hc11) rfl (by decide) (q_move e10_1) ?_
          refine GoOps.q (v := .bool (decide (1073741824 < p1))) (want_yes rfl rfl rfl hc11) rfl (by decide) (q_gtr rfl rfl) ?_
          refine GoOps.q (v := .bool (decide (1073741824 < p1))) rfl rfl (by decide) (q_pickF (btF rfl hc11) rfl) ?_
          exact hj13 (decide (1073741824 < p1)) _ _ h (by exact ⟨e10_0, e10_1, e10_2, e10_3, rfl⟩)
    · intro j8 hj8 h
      rcases bor s2 with hc6 | hc6
      · have h := h.1 hc6
        refine no_dst (want_no rfl rfl rfl hc6) rfl (by decide) ?_
        refine no_dst (want_no rfl rfl rfl hc6) rfl (by decide) ?_
        refine GoOps.q (v := .bool true) rfl rfl (by decide) (q_pickT (btT rfl hc6) rfl) ?_
        exact hj8 true _ _ h (by exact ⟨e5_0, e5_1, e5_2, e5_3, rfl⟩)
      · have h := h.2 hc6
        refine GoOps.q (v := .int .i64 p1) (want_yes rfl rfl rfl hc6) rfl (by decide) (q_move e5_1) ?_
        refine GoOps.q (v := .bool (decide (p1 < 1))) (want_yes rfl rfl rfl hc6) rfl (by decide) (q_lss rfl rfl) ?_
        refine GoOps.q (v := .bool (decide (p1 < 1))) rfl rfl (by decide) (q_pickF (btF rfl hc6) rfl) ?_
        exact hj8 (decide (p1 < 1)) _ _ h (by exact ⟨e5_0, e5_1, e5_2, e5_3, rfl⟩)
  · intro j3 hj3 h
    rcases bor (decide (p0 < 1)) with hc1 | hc1
    · have h := h.1 hc1
      refine no_dst (want_no rfl rfl rfl hc1) rfl (by decide) ?_
      refine no_dst (want_no rfl rfl rfl hc1) rfl (by decide) ?_
      refine GoOps.q (v := .bool true) rfl rfl (by decide) (q_pickT (btT rfl hc1) rfl) ?_
      exact hj3 true _ _ h (by exact ⟨rfl, rfl, rfl, rfl, rfl⟩)
    · have h := h.2 hc1
      refine GoOps.q (v := .int .i64 p0) (want_yes rfl rfl rfl hc1) rfl (by decide) (q_move rfl) ?_
      refine GoOps.q (v := .bool (decide (16 < p0))) (want_yes rfl rfl rfl hc1) rfl (by decide) (q_gtr rfl rfl) ?_
      refine GoOps.q (v := .bool (decide (16 < p0))) rfl rfl (by decide) (q_pickF (btF rfl hc1) rfl) ?_
      exact hj3 (decide (16 < p0)) _ _ h (by exact ⟨rfl, rfl, rfl, rfl, rfl⟩)

/-- keelson.keelsonref1.Within -/
def keelsonref1_Within (p0 : Int) (p1 : Int) (p2 : Int) (H : PH) (Q : Bool → PH → Prop) : Prop :=
  mJoin (fun (s2 : Bool) (H4 : PH) =>
  Q s2 H4)
  fun j3 =>
  mIf (decide (p1 ≤ p0))
  (j3 (decide (p0 ≤ p2)) H)
  (j3 false H)

set_option maxRecDepth 20000 in
set_option maxHeartbeats 1000000 in
theorem keelsonref1_Within_s (p0 : Int) (p1 : Int) (p2 : Int) (H : PH) (Q : Bool → PH → Prop) (h : keelsonref1_Within p0 p1 p2 H Q) :
    CallsH Try.prog 30 #[.int .i64 p0, .int .i64 p1, .int .i64 p2] H (fun v H' => ∃ (r0 : Bool), v = .bool r0 ∧ Q r0 H') := by
  unfold keelsonref1_Within at h
  refine callsH_of_go Try.func30 rfl Try.ntmps30 (Nat.le_of_ble_eq_true rfl) ?_
  refine Go.seq ?_
  refine Go.region rfl ?_
  refine GoOps.q (v := .bool false) rfl rfl (by decide) (q_assign rfl) ?_
  refine GoOps.nil ?_
  refine Go.seq ?_
  refine Go.region rfl ?_
  refine GoOps.q (v := .int .i64 p0) rfl rfl (by decide) (q_move rfl) ?_
  refine GoOps.q (v := .int .i64 p1) rfl rfl (by decide) (q_move rfl) ?_
  refine GoOps.q (v := .bool (decide (p1 ≤ p0))) rfl rfl (by decide) (q_geq rfl rfl) ?_
  refine GoOps.q (v := .bool (decide (p1 ≤ p0))) rfl rfl (by decide) (q_move rfl) ?_
  refine join_ops 4 (fun ρ (s2 : Bool) => ρ 14 = .bool s2) h ?_ ?_ <;> clear h
  · intro s2 H4 ρ h hE
    have e5_14 := hE
    refine GoOps.q (v := .bool s2) rfl rfl (by decide) (q_assign e5_14) ?_
    refine GoOps.nil ?_
    exact Go.ret ⟨.inl rfl, _, _, DOk.nil, (resOk1 Try.results30 rfl), ⟨_, rfl, h⟩⟩
  · intro j3 hj3 h
    rcases bor (decide (p1 ≤ p0)) with hc1 | hc1
    · have h := h.1 hc1
      refine GoOps.q (v := .int .i64 p0) (want_yes rfl rfl rfl hc1) rfl (by decide) (q_move rfl) ?_
      refine GoOps.q (v := .int .i64 p2) (want_yes rfl rfl rfl hc1) rfl (by decide) (q_move rfl) ?_
      refine GoOps.q (v := .bool (decide (p0 ≤ p2))) (want_yes rfl rfl rfl hc1) rfl (by decide) (q_leq rfl rfl) ?_
      refine GoOps.q (v := .bool (decide (p0 ≤ p2))) rfl rfl (by decide) (q_pickT (btT rfl hc1) rfl) ?_
      exact hj3 (decide (p0 ≤ p2)) _ _ h (by exact rfl)
    · have h := h.2 hc1
      refine no_dst (want_no rfl rfl rfl hc1) rfl (by decide) ?_
      refine no_dst (want_no rfl rfl rfl hc1) rfl (by decide) ?_
      refine no_dst (want_no rfl rfl rfl hc1) rfl (by decide) ?_
      refine GoOps.q (v := .bool false) rfl rfl (by decide) (q_pickF (btF rfl hc1) rfl) ?_
      exact hj3 false _ _ h (by exact rfl)

/-- keelson.keelsonref22.NewWindow -/
def keelsonref22_NewWindow (p0 : Int) (p1 : Int) (H : PH) (Q : Option Addr → PH → Prop) : Prop :=
  keelsonref1_Within p0 1 16 H fun y2 H1 =>
  mJoin (fun (s4 : Bool) (H6 : PH) =>
  mIf s4
  (Q none H6)
  (mNew H6 (row [.int .i64 p0, .int .i64 p1, Sl.v Sl.nil] 52) fun a9 H10 =>
  Q (some a9) H10))
  fun j5 =>
  mIf (!y2)
  (j5 true H1)
  (keelsonref1_Within p1 1 2147483647 H1 fun y13 H12 =>
  j5 (!y13) H12)

set_option maxRecDepth 20000 in
set_option maxHeartbeats 1000000 in
theorem keelsonref22_NewWindow_s (p0 : Int) (p1 : Int) (H : PH) (Q : Option Addr → PH → Prop) (h : keelsonref22_NewWindow p0 p1 H Q) :
    CallsH Try.prog 16 #[.int .i64 p0, .int .i64 p1] H (fun v H' => ∃ (r0 : Option Addr), v = .pointer r0 ∧ Q r0 H') := by
  unfold keelsonref22_NewWindow at h
  refine callsH_of_go Try.func16 rfl Try.ntmps16 (Nat.le_of_ble_eq_true rfl) ?_
  refine Go.seq ?_
  refine Go.region rfl ?_
  refine GoOps.q (v := .pointer none) rfl rfl (by decide) (q_assign rfl) ?_
  refine GoOps.nil ?_
  refine Go.seq ?_
  refine Go.seq ?_
  refine Go.region rfl ?_
  refine GoOps.q (v := .int .i64 p0) rfl rfl (by decide) (q_move rfl) ?_
  refine call_dst rfl (by decide) body30 (keelsonref1_Within_s _ _ _ _ _ h) rfl ?_
  rintro _ H1 ⟨y2, rfl, h⟩
  refine GoOps.q (v := .bool (!y2)) rfl rfl (by decide) (q_not rfl) ?_
  refine GoOps.q (v := .bool (!y2)) rfl rfl (by decide) (q_move rfl) ?_
  refine join_ops 4 (fun ρ (s4 : Bool) => ρ 0 = .int .i64 p0 ∧ ρ 1 = .int .i64 p1 ∧ ρ 12 = .bool s4) h ?_ ?_ <;> clear h
  · intro s4 H6 ρ h hE
    obtain ⟨e7_0, e7_1, e7_12⟩ := hE
    refine GoOps.nil ?_
    rcases bor s4 with hc8 | hc8
    · have h := h.1 hc8
      refine Go.condT (btT e7_12 hc8) ?_
      refine Go.seq ?_
      refine Go.region rfl ?_
      refine GoOps.q (v := .pointer none) rfl rfl (by decide) (q_assign rfl) ?_
      refine GoOps.nil ?_
      exact Go.ret ⟨.inl rfl, _, _, DOk.nil, (resOk1 Try.results16 rfl), ⟨_, rfl, h⟩⟩
    · have h := h.2 hc8
      refine Go.condF (btF e7_12 hc8) ?_
      refine Go.skip ?_
      refine Go.seq ?_
      refine Go.region rfl ?_
      refine GoOps.q (v := .int .i64 p0) rfl rfl (by decide) (q_move e7_0) ?_
      refine GoOps.q (v := .int .i64 p1) rfl rfl (by decide) (q_move e7_1) ?_
      refine GoOps.q (v := .agg ([.int .i64 p0, .int .i64 p1, Sl.v Sl.nil] : List Value).toArray) rfl rfl (by decide) (q_build (ps := [(0, .int .i64 p0), (1, .int .i64 p1)]) (cs := [.int .i64 p0, .int .i64 p1, Sl.v Sl.nil]) places52 zero52 rfl rfl rfl) ?_
      refine op_dst rfl rfl (by decide) (do_newBox (cs := [.int .i64 p0, .int .i64 p1, Sl.v Sl.nil]) rfl rfl fun a9 H10 hb11 => ?_) 
      have h := h a9 H10 hb11
      refine GoOps.q (v := .pointer (some a9)) rfl rfl (by decide) (q_assign rfl) ?_
      refine GoOps.nil ?_
      exact Go.ret ⟨.inl rfl, _, _, DOk.nil, (resOk1 Try.results16 rfl), ⟨_, rfl, h⟩⟩
  · intro j5 hj5 h
    rcases bor (!y2) with hc3 | hc3
    · have h := h.1 hc3
      refine no_dst (want_no rfl rfl rfl hc3) rfl (by decide) ?_
      refine no_dst (want_no rfl rfl rfl hc3) rfl (by decide) ?_
      refine no_dst (want_no rfl rfl rfl hc3) rfl (by decide) ?_
      refine GoOps.q (v := .bool true) rfl rfl (by decide) (q_pickT (btT rfl hc3) rfl) ?_
      exact hj5 true _ _ h (by exact ⟨rfl, rfl, rfl⟩)
    · have h := h.2 hc3
      refine GoOps.q (v := .int .i64 p1) (want_yes rfl rfl rfl hc3) rfl (by decide) (q_move rfl) ?_
      refine call_dst (want_yes rfl rfl rfl hc3) (by decide) body30 (keelsonref1_Within_s _ _ _ _ _ h) rfl ?_
      rintro _ H12 ⟨y13, rfl, h⟩
      refine GoOps.q (v := .bool (!y13)) (want_yes rfl rfl rfl hc3) rfl (by decide) (q_not rfl) ?_
      refine GoOps.q (v := .bool (!y13)) rfl rfl (by decide) (q_pickF (btF rfl hc3) rfl) ?_
      exact hj5 (!y13) _ _ h (by exact ⟨rfl, rfl, rfl⟩)


end Go.Proofs.Ytegnpplffhkjhaa

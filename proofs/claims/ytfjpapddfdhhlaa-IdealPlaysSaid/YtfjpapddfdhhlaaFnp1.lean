import Derived.Test.YtfjpapddfdhhlaaProg
import Derived.Test.YtfjpapddfdhhlaaKxF
import Derived.KernelRfl
set_option linter.unusedVariables false
set_option linter.unusedSimpArgs false
namespace Go.Proofs.Ytfjpapddfdhhlaa
open Go Go.Kx Go.Proofs
theorem mixed : Try.prog.follows .mixedOrders = true := by kernel_rfl
theorem foff51_0 : FieldOff Try.prog 51 0 0 := ⟨_, _, 1, Try.underlying51, rfl, rfl, by kernel_rfl, by decide⟩
theorem scalar49 : Scalar Try.prog 49 := ⟨_, Try.underlying49, trivial⟩
theorem slice52 : SliceOf Try.prog 52 5 1 := ⟨Try.underlying52, by kernel_rfl⟩
theorem bytes5 : BytesOf Try.prog 5 1 := by unfold BytesOf; kernel_rfl
theorem zero5 : ZeroOf Try.prog 5 (.int .u8 0) := by unfold ZeroOf; kernel_rfl
theorem slice49 : SliceOf Try.prog 49 52 1 := ⟨Try.underlying49, by kernel_rfl⟩
theorem size52 : (Try.prog.info? 52).map (·.size) = some 1 := by kernel_rfl
theorem bytes52 : BytesOf Try.prog 52 24 := by unfold BytesOf; kernel_rfl
theorem zero52 : ZeroOf Try.prog 52 (.slice none 0 0) := by unfold ZeroOf; kernel_rfl
theorem places51 : PlacesOf Try.prog 51 [(0, 1), (1, 1), (2, 1), (3, 1), (4, 1)] := ⟨_, Try.underlying51, rfl, by kernel_rfl⟩
theorem zero51 : ZeroOf Try.prog 51 (.agg ([.slice none 0 0, .slice none 0 0, .int .i64 0, .int .i64 0, .int .i64 0] : List Value).toArray) := by unfold ZeroOf; kernel_rfl
theorem body39 : Body Try.prog 39 := body_of Try.func39 rfl rfl
theorem slice27 : SliceOf Try.prog 27 5 1 := ⟨Try.underlying27, by kernel_rfl⟩
theorem size5 : (Try.prog.info? 5).map (·.size) = some 1 := by kernel_rfl
theorem body25 : Body Try.prog 25 := body_of Try.func25 rfl rfl
theorem foff29_0 : FieldOff Try.prog 29 0 0 := ⟨_, _, 1, Try.underlying29, rfl, rfl, by kernel_rfl, by decide⟩
theorem scalar3 : Scalar Try.prog 3 := ⟨_, Try.underlying3, trivial⟩
theorem foff29_1 : FieldOff Try.prog 29 1 1 := ⟨_, _, 1, Try.underlying29, rfl, rfl, by kernel_rfl, by decide⟩
theorem foff29_4 : FieldOff Try.prog 29 4 4 := ⟨_, _, 1, Try.underlying29, rfl, rfl, by kernel_rfl, by decide⟩
theorem scalar27 : Scalar Try.prog 27 := ⟨_, Try.underlying27, trivial⟩
theorem foff29_3 : FieldOff Try.prog 29 3 3 := ⟨_, _, 1, Try.underlying29, rfl, rfl, by kernel_rfl, by decide⟩
theorem foff29_2 : FieldOff Try.prog 29 2 2 := ⟨_, _, 1, Try.underlying29, rfl, rfl, by kernel_rfl, by decide⟩
theorem body32 : Body Try.prog 32 := body_of Try.func32 rfl rfl
theorem foff51_2 : FieldOff Try.prog 51 2 2 := ⟨_, _, 1, Try.underlying51, rfl, rfl, by kernel_rfl, by decide⟩
theorem foff51_1 : FieldOff Try.prog 51 1 1 := ⟨_, _, 1, Try.underlying51, rfl, rfl, by kernel_rfl, by decide⟩
theorem scalar52 : Scalar Try.prog 52 := ⟨_, Try.underlying52, trivial⟩
theorem foff51_3 : FieldOff Try.prog 51 3 3 := ⟨_, _, 1, Try.underlying51, rfl, rfl, by kernel_rfl, by decide⟩
theorem size3 : (Try.prog.info? 3).map (·.size) = some 1 := by kernel_rfl
theorem foff51_4 : FieldOff Try.prog 51 4 4 := ⟨_, _, 1, Try.underlying51, rfl, rfl, by kernel_rfl, by decide⟩
theorem aggr29 : Aggr Try.prog 29 5 := ⟨⟨_, Try.underlying29, trivial⟩, by kernel_rfl⟩
theorem body31 : Body Try.prog 31 := body_of Try.func31 rfl rfl
theorem body30 : Body Try.prog 30 := body_of Try.func30 rfl rfl
theorem body29 : Body Try.prog 29 := body_of Try.func29 rfl rfl
theorem body28 : Body Try.prog 28 := body_of Try.func28 rfl rfl
theorem body33 : Body Try.prog 33 := body_of Try.func33 rfl rfl
theorem scalar5 : Scalar Try.prog 5 := ⟨_, Try.underlying5, trivial⟩
theorem body34 : Body Try.prog 34 := body_of Try.func34 rfl rfl
theorem body13 : Body Try.prog 13 := body_of Try.func13 rfl rfl
theorem places29 : PlacesOf Try.prog 29 [(0, 1), (1, 1), (2, 1), (3, 1), (4, 1)] := ⟨_, Try.underlying29, rfl, by kernel_rfl⟩
theorem zero29 : ZeroOf Try.prog 29 (.agg ([.int .i64 0, .int .i64 0, .int .i64 0, .int .i64 0, .slice none 0 0] : List Value).toArray) := by unfold ZeroOf; kernel_rfl
theorem body15 : Body Try.prog 15 := body_of Try.func15 rfl rfl
theorem body14 : Body Try.prog 14 := body_of Try.func14 rfl rfl
theorem body9 : Body Try.prog 9 := body_of Try.func9 rfl rfl
theorem body12 : Body Try.prog 12 := body_of Try.func12 rfl rfl
theorem body27 : Body Try.prog 27 := body_of Try.func27 rfl rfl
theorem body11 : Body Try.prog 11 := body_of Try.func11 rfl rfl
theorem body10 : Body Try.prog 10 := body_of Try.func10 rfl rfl
theorem body7 : Body Try.prog 7 := body_of Try.func7 rfl rfl
theorem size29 : (Try.prog.info? 29).map (·.size) = some 5 := by kernel_rfl
theorem body6 : Body Try.prog 6 := body_of Try.func6 rfl rfl
theorem slice26 : SliceOf Try.prog 26 27 1 := ⟨Try.underlying26, by kernel_rfl⟩
theorem zero27 : ZeroOf Try.prog 27 (.slice none 0 0) := by unfold ZeroOf; kernel_rfl
theorem bytes27 : BytesOf Try.prog 27 24 := by unfold BytesOf; kernel_rfl
theorem slice22 : SliceOf Try.prog 22 3 1 := ⟨Try.underlying22, by kernel_rfl⟩
theorem body8 : Body Try.prog 8 := body_of Try.func8 rfl rfl
theorem body16 : Body Try.prog 16 := body_of Try.func16 rfl rfl
theorem slice36 : SliceOf Try.prog 36 29 5 := ⟨Try.underlying36, by kernel_rfl⟩
theorem places41 : PlacesOf Try.prog 41 [(0, 1), (1, 1), (2, 1), (3, 1), (4, 1)] := ⟨_, Try.underlying41, rfl, by kernel_rfl⟩
theorem zero41 : ZeroOf Try.prog 41 (.agg ([.slice none 0 0, .slice none 0 0, .int .i64 0, .int .i64 0, .int .i64 0] : List Value).toArray) := by unfold ZeroOf; kernel_rfl
theorem foff41_0 : FieldOff Try.prog 41 0 0 := ⟨_, _, 1, Try.underlying41, rfl, rfl, by kernel_rfl, by decide⟩
theorem scalar26 : Scalar Try.prog 26 := ⟨_, Try.underlying26, trivial⟩
theorem size26 : (Try.prog.info? 26).map (·.size) = some 1 := by kernel_rfl
theorem body35 : Body Try.prog 35 := body_of Try.func35 rfl rfl
theorem foff41_1 : FieldOff Try.prog 41 1 1 := ⟨_, _, 1, Try.underlying41, rfl, rfl, by kernel_rfl, by decide⟩
theorem foff41_4 : FieldOff Try.prog 41 4 4 := ⟨_, _, 1, Try.underlying41, rfl, rfl, by kernel_rfl, by decide⟩
theorem foff41_3 : FieldOff Try.prog 41 3 3 := ⟨_, _, 1, Try.underlying41, rfl, rfl, by kernel_rfl, by decide⟩
theorem foff41_2 : FieldOff Try.prog 41 2 2 := ⟨_, _, 1, Try.underlying41, rfl, rfl, by kernel_rfl, by decide⟩
theorem size27 : (Try.prog.info? 27).map (·.size) = some 1 := by kernel_rfl
theorem body37 : Body Try.prog 37 := body_of Try.func37 rfl rfl
theorem body36 : Body Try.prog 36 := body_of Try.func36 rfl rfl
theorem scalar24 : Scalar Try.prog 24 := ⟨_, Try.underlying24, trivial⟩
theorem body40 : Body Try.prog 40 := body_of Try.func40 rfl rfl
theorem zero26 : ZeroOf Try.prog 26 (.slice none 0 0) := by unfold ZeroOf; kernel_rfl
theorem zero4 : ZeroOf Try.prog 4 (.bool false) := by unfold ZeroOf; kernel_rfl
theorem size4 : (Try.prog.info? 4).map (·.size) = some 1 := by kernel_rfl
theorem scalar4 : Scalar Try.prog 4 := ⟨_, Try.underlying4, trivial⟩
theorem body38 : Body Try.prog 38 := body_of Try.func38 rfl rfl
theorem body22 : Body Try.prog 22 := body_of Try.func22 rfl rfl
theorem body21 : Body Try.prog 21 := body_of Try.func21 rfl rfl
theorem body20 : Body Try.prog 20 := body_of Try.func20 rfl rfl
theorem body19 : Body Try.prog 19 := body_of Try.func19 rfl rfl
theorem body24 : Body Try.prog 24 := body_of Try.func24 rfl rfl
theorem body23 : Body Try.prog 23 := body_of Try.func23 rfl rfl
theorem body18 : Body Try.prog 18 := body_of Try.func18 rfl rfl
theorem body17 : Body Try.prog 17 := body_of Try.func17 rfl rfl
theorem bytes29 : BytesOf Try.prog 29 56 := by unfold BytesOf; kernel_rfl
theorem body26 : Body Try.prog 26 := body_of Try.func26 rfl rfl

/-- keelson.ideal.New -/
def ideal_New (p0 : Int) (H : PH) (Q : Option Addr → PH → Prop) : Prop :=
  mJoin (fun (s2 : Bool) (H4 : PH) =>
  mIf s2
  (Q none H4)
  (mJoin (fun (s7 : Option Addr) (H9 : PH) =>
  mNil s7 fun a11 =>
  mLd Sl.v H9 (a11.add 0) fun x13 =>
  mLoop (fun (s15 : Int) (H18 : PH) (again16 : Int → PH → Prop) =>
  mIf (decide (s15 < (x13.len : Int)))
  (mNil s7 fun a20 =>
  mLd Sl.v H18 (a20.add 0) fun x22 =>
  mBoth (MkOk 1 64 64) <|
  mNewSI H18 (row (zeros (64 : Int).toNat [.int .u8 0]) 5) 64 64 fun r25 H26 =>
  mSame H26 (a20.add 0) (Sl.v x22) <|
  mIdx x22 1 s15 fun a29 =>
  mSt H26 a29 ([Sl.v r25]) fun H31 =>
  again16 (IntKind.wrap .i64 (s15 + 1)) H31)
  (Q s7 H18))
  0 H9)
  fun j8 =>
  mBoth (MkOk 24 p0 p0) <|
  mBoth (MkOk 24 p0 p0) <|
  mNewSI H4 (row (zeros (p0 : Int).toNat [.slice none 0 0]) 52) p0 p0 fun r35 H36 =>
  mNewSI H36 (row (zeros (p0 : Int).toNat [.slice none 0 0]) 52) p0 p0 fun r38 H39 =>
  mNew H39 (row [Sl.v r35, Sl.v r38, .int .i64 0, .int .i64 0, .int .i64 0] 51) fun a41 H42 =>
  j8 (some a41) H42))
  fun j3 =>
  mIf (decide (p0 < 1))
  (j3 true H)
  (j3 (decide (64 < p0)) H)

set_option maxRecDepth 20000 in
set_option maxHeartbeats 1000000 in
theorem ideal_New_s (p0 : Int) (H : PH) (Q : Option Addr → PH → Prop) (h : ideal_New p0 H Q) :
    CallsH Try.prog 7 #[.int .i64 p0] H (fun v H' => ∃ (r0 : Option Addr), v = .pointer r0 ∧ Q r0 H') := by
  unfold ideal_New at h
  refine callsH_of_go Try.func7 rfl Try.ntmps7 (Nat.le_of_ble_eq_true rfl) ?_
  refine Go.seq ?_
  refine Go.region rfl ?_
  refine GoOps.q (v := .pointer none) rfl rfl (by decide) (q_assign rfl) ?_
  refine GoOps.nil ?_
  refine Go.seq ?_
  refine Go.seq ?_
  refine Go.region rfl ?_
  refine GoOps.q (v := .int .i64 p0) rfl rfl (by decide) (q_move rfl) ?_
  refine GoOps.q (v := .bool (decide (p0 < 1))) rfl rfl (by decide) (q_lss rfl rfl) ?_
  refine GoOps.q (v := .bool (decide (p0 < 1))) rfl rfl (by decide) (q_move rfl) ?_
  refine join_ops 3 (fun ρ (s2 : Bool) => ρ 0 = .int .i64 p0 ∧ ρ 10 = .bool s2) h ?_ ?_ <;> clear h
  · intro s2 H4 ρ h hE
    obtain ⟨e5_0, e5_10⟩ := hE
    refine GoOps.nil ?_
    rcases bor s2 with hc6 | hc6
    · have h := h.1 hc6
      refine Go.condT (btT e5_10 hc6) ?_
      refine Go.seq ?_
      refine Go.region rfl ?_
      refine GoOps.q (v := .pointer none) rfl rfl (by decide) (q_assign rfl) ?_
      refine GoOps.nil ?_
      exact Go.ret ⟨.inl rfl, _, _, DOk.nil, (resOk1 Try.results7 rfl), ⟨_, rfl, h⟩⟩
    · have h := h.2 hc6
      refine Go.condF (btF e5_10 hc6) ?_
      refine Go.skip ?_
      refine Go.seq ?_
      refine join_go 1 (fun ρ (s7 : Option Addr) => ρ 3 = .pointer s7) h ?_ ?_ <;> clear h
      · intro s7 H9 ρ h hE
        have e10_3 := hE
        refine Go.seq ?_
        refine Go.seq ?_
        refine Go.region rfl ?_
        refine GoOps.q (v := .pointer s7) rfl rfl (by decide) (q_move e10_3) ?_
        obtain ⟨a11, ha12, h⟩ := h
        refine GoOps.q (v := .pointer (some a11)) rfl rfl (by decide) (q_nilCheck (ptn rfl ha12)) ?_
        refine GoOps.q (v := .pointer (some (a11.add 0))) rfl rfl (by decide) (q_fieldAddr foff51_0 rfl) ?_
        obtain ⟨x13, hx14, h⟩ := h
        refine GoOps.q (v := Sl.v x13) rfl rfl (by decide) (q_load scalar49 rfl hx14) ?_
        refine GoOps.q (v := .int .i64 (x13.len : Int)) rfl rfl (by decide) (q_len Try.underlying49 rfl (ls1 rfl)) ?_
        refine GoOps.q (v := .int .i64 0) rfl rfl (by decide) (q_move rfl) ?_
        refine GoOps.nil ?_
        refine Go.block ?_
        refine loop_go (fun ρ (s15 : Int) => ρ 3 = .pointer s7 ∧ ρ 21 = .int .i64 (x13.len : Int) ∧ ρ 22 = .int .i64 s15) h ⟨e10_3, rfl, rfl⟩ ?_
        clear h
        intro ρ s15 H18 again16 hE h hagain16
        obtain ⟨e17_3, e17_21, e17_22⟩ := hE
        refine Go.seq ?_
        refine Go.region rfl ?_
        refine GoOps.q (v := .bool (decide (s15 < (x13.len : Int)))) rfl rfl (by decide) (q_lss e17_22 e17_21) ?_
        refine GoOps.nil ?_
        refine Go.seq ?_
        rcases bor (decide (s15 < (x13.len : Int))) with hc19 | hc19
        · have h := h.1 hc19
          refine Go.condT (btT rfl hc19) ?_
          refine Go.skip ?_
          refine Go.seq ?_
          refine Go.block ?_
          refine Go.seq ?_
          refine Go.region rfl ?_
          refine GoOps.q (v := .int .i64 s15) rfl rfl (by decide) (q_move e17_22) ?_
          refine GoOps.q (v := .int .i64 s15) rfl rfl (by decide) (q_assign rfl) ?_
          refine GoOps.nil ?_
          refine Go.draw mixed ?_
          refine plan_pure (i := 0) (d := 25) (S2 := 1) (v := .pointer s7) rfl (by decide +kernel) rfl (q_move e17_3) ?_
          obtain ⟨a20, ha21, h⟩ := h
          refine plan_pure (i := 1) (d := 26) (S2 := 3) (v := .pointer (some a20)) rfl (by decide +kernel) rfl (q_nilCheck (ptn rfl ha21)) ?_
          refine plan_pure (i := 2) (d := 27) (S2 := 7) (v := .pointer (some (a20.add 0))) rfl (by decide +kernel) rfl (q_fieldAddr foff51_0 rfl) ?_
          obtain ⟨x22, hx23, h⟩ := h
          refine plan_load (i := 3) (d := 28) (S2 := 15) (v := Sl.v x22) rfl (by decide +kernel) rfl (q_load scalar49 rfl hx23) ?_
          refine plan_pure (i := 4) (d := 29) (S2 := 31) (v := .int .i64 s15) rfl (by decide +kernel) rfl (q_move rfl) ?_
          obtain ⟨hm24, h⟩ := h
          refine plan_one (j := 5) (S2 := 63) (by decide +kernel) rfl (by decide) rfl ?_
          refine do_mk (zs := [.int .u8 0]) slice52 bytes5 (by decide) zero5 rfl rfl (by decide) rfl rfl hm24 fun r25 H26 hb27 => ?_
          have h := h r25 H26 hb27
          obtain ⟨hr28, h⟩ := h
          refine ⟨_, (.inr ⟨⟨_, _, rfl, rfl, q_load scalar49 rfl hr28⟩, _, rfl, rfl⟩), ?_⟩
          obtain ⟨a29, ha30, h⟩ := h
          refine plan_pure (i := 6) (d := 31) (S2 := 127) (v := .pointer (some a29)) rfl (by decide +kernel) rfl (q_idx slice49 ha30 rfl rfl) ?_
          refine plan_one (j := 7) (S2 := 255) (by decide +kernel) rfl (by decide) rfl ?_
          obtain ⟨q32b, q32o, q32c, q32e, hq32a, hq32b, hq32l, hq32v, h⟩ := h
          refine do_store (vs := [Sl.v r25]) size52 (pta rfl hq32a) rfl rfl rfl hq32v hq32b hq32l ?_
          refine ⟨_, (.inl ⟨⟨[7], by decide +kernel, rfl⟩, rfl⟩), ?_⟩
          refine plan_done (by decide +kernel) ?_
          refine Go.inBlock ?_
          refine Go.region rfl ?_
          refine GoOps.q (v := .int .i64 (IntKind.wrap .i64 (s15 + 1))) rfl rfl (by decide) (q_add e17_22 rfl) ?_
          refine GoOps.q (v := .int .i64 (IntKind.wrap .i64 (s15 + 1))) rfl rfl (by decide) (q_move rfl) ?_
          refine GoOps.nil ?_
          exact hagain16 _ _ _ h ⟨e17_3, e17_21, rfl⟩
        · have h := h.2 hc19
          refine Go.condF (btF rfl hc19) ?_
          refine Go.exit rfl ?_
          refine Go.seq ?_
          refine Go.region rfl ?_
          refine GoOps.q (v := .pointer s7) rfl rfl (by decide) (q_move e17_3) ?_
          refine GoOps.q (v := .pointer s7) rfl rfl (by decide) (q_assign rfl) ?_
          refine GoOps.nil ?_
          exact Go.ret ⟨.inl rfl, _, _, DOk.nil, (resOk1 Try.results7 rfl), ⟨_, rfl, h⟩⟩
      · intro j8 hj8 h
        refine Go.draw mixed ?_
        refine plan_pure (i := 0) (d := 11) (S2 := 1) (v := .int .i64 p0) rfl (by decide +kernel) rfl (q_move e5_0) ?_
        refine plan_pure (i := 2) (d := 13) (S2 := 5) (v := .int .i64 p0) rfl (by decide +kernel) rfl (q_move e5_0) ?_
        obtain ⟨hm33, h⟩ := h
        obtain ⟨hm34, h⟩ := h
        refine plan_step (R := [1, 3]) (by decide +kernel) ⟨?_, ?_, trivial⟩
        · refine pstep_yes (S2 := 7) rfl (by decide +kernel) (by decide) rfl ?_
          refine do_mk (zs := [.slice none 0 0]) slice49 bytes52 (by decide) zero52 rfl rfl (by decide) rfl rfl hm33 fun r35 H36 hb37 => ?_
          have h := h r35 H36 hb37
          refine ⟨_, rfl, ?_⟩
          refine plan_one (j := 3) (S2 := 15) (by decide +kernel) rfl (by decide) rfl ?_
          refine do_mk (zs := [.slice none 0 0]) slice49 bytes52 (by decide) zero52 rfl rfl (by decide) rfl rfl hm34 fun r38 H39 hb40 => ?_
          have h := h r38 H39 hb40
          refine ⟨_, rfl, ?_⟩
          refine plan_pure (i := 4) (d := 15) (S2 := 31) (v := .agg ([Sl.v r35, Sl.v r38, .int .i64 0, .int .i64 0, .int .i64 0] : List Value).toArray) rfl (by decide +kernel) rfl (q_build (ps := [(0, Sl.v r35), (1, Sl.v r38)]) (cs := [Sl.v r35, Sl.v r38, .int .i64 0, .int .i64 0, .int .i64 0]) places51 zero51 rfl rfl rfl) ?_
          refine plan_one (j := 5) (S2 := 63) (by decide +kernel) rfl (by decide) rfl ?_
          refine do_newBox (cs := [Sl.v r35, Sl.v r38, .int .i64 0, .int .i64 0, .int .i64 0]) rfl rfl fun a41 H42 hb43 => ?_
          have h := h a41 H42 hb43
          refine ⟨_, rfl, ?_⟩
          refine plan_pure (i := 6) (d := 3) (S2 := 127) (v := .pointer (some a41)) rfl (by decide +kernel) rfl (q_assign rfl) ?_
          refine plan_done (by decide +kernel) ?_
          exact hj8 _ _ _ h rfl
        · refine pstep_yes (S2 := 13) rfl (by decide +kernel) (by decide) rfl ?_
          refine do_mkT (zs := [.slice none 0 0]) slice49 bytes52 (by decide) zero52 rfl rfl (by decide) rfl rfl hm34 fun b45 r44 hHb45 hTb45 hrb45 => ?_
          refine ⟨_, rfl, ?_⟩
          refine plan_one (j := 1) (S2 := 15) (by decide +kernel) rfl (by decide) rfl ?_
          refine do_mk (zs := [.slice none 0 0]) slice49 bytes52 (by decide) zero52 rfl rfl (by decide) rfl rfl hm33 fun r46 H47 hb48 => ?_
          have h := h r46 H47 hb48
          refine ⟨_, rfl, ?_⟩
          refine plan_commit hTb45 fun hh50 => ?_
          have h := h r44 _ ⟨b45, hh50, hrb45, rfl⟩
          refine plan_pure (i := 4) (d := 15) (S2 := 31) (v := .agg ([Sl.v r46, Sl.v r44, .int .i64 0, .int .i64 0, .int .i64 0] : List Value).toArray) rfl (by decide +kernel) rfl (q_build (ps := [(0, Sl.v r46), (1, Sl.v r44)]) (cs := [Sl.v r46, Sl.v r44, .int .i64 0, .int .i64 0, .int .i64 0]) places51 zero51 rfl rfl rfl) ?_
          refine plan_one (j := 5) (S2 := 63) (by decide +kernel) rfl (by decide) rfl ?_
          refine do_newBox (cs := [Sl.v r46, Sl.v r44, .int .i64 0, .int .i64 0, .int .i64 0]) rfl rfl fun a51 H52 hb53 => ?_
          have h := h a51 H52 hb53
          refine ⟨_, rfl, ?_⟩
          refine plan_pure (i := 6) (d := 3) (S2 := 127) (v := .pointer (some a51)) rfl (by decide +kernel) rfl (q_assign rfl) ?_
          refine plan_done (by decide +kernel) ?_
          exact hj8 _ _ _ h rfl
  · intro j3 hj3 h
    rcases bor (decide (p0 < 1)) with hc1 | hc1
    · have h := h.1 hc1
      refine no_dst (want_no rfl rfl rfl hc1) rfl (by decide) ?_
      refine no_dst (want_no rfl rfl rfl hc1) rfl (by decide) ?_
      refine GoOps.q (v := .bool true) rfl rfl (by decide) (q_pickT (btT rfl hc1) rfl) ?_
      exact hj3 true _ _ h (by exact ⟨rfl, rfl⟩)
    · have h := h.2 hc1
      refine GoOps.q (v := .int .i64 p0) (want_yes rfl rfl rfl hc1) rfl (by decide) (q_move rfl) ?_
      refine GoOps.q (v := .bool (decide (64 < p0))) (want_yes rfl rfl rfl hc1) rfl (by decide) (q_gtr rfl rfl) ?_
      refine GoOps.q (v := .bool (decide (64 < p0))) rfl rfl (by decide) (q_pickF (btF rfl hc1) rfl) ?_
      exact hj3 (decide (64 < p0)) _ _ h (by exact ⟨rfl, rfl⟩)

/-- keelson.keelsonref1.Mod -/
def keelsonref1_Mod (p0 : Int) (p1 : Int) (H : PH) (Q : Int → PH → Prop) : Prop :=
  mNe p1 <|
  mJoin (fun (s2 : Int) (H4 : PH) =>
  Q s2 H4)
  fun j3 =>
  mIf (decide ((Int.tmod p0 p1) < 0))
  (j3 (IntKind.wrap .i64 ((Int.tmod p0 p1) + p1)) H)
  (j3 (Int.tmod p0 p1) H)

set_option maxRecDepth 20000 in
set_option maxHeartbeats 1000000 in
theorem keelsonref1_Mod_s (p0 : Int) (p1 : Int) (H : PH) (Q : Int → PH → Prop) (h : keelsonref1_Mod p0 p1 H Q) :
    CallsH Try.prog 39 #[.int .i64 p0, .int .i64 p1] H (fun v H' => ∃ (r0 : Int), v = .int .i64 r0 ∧ Q r0 H') := by
  unfold keelsonref1_Mod at h
  refine callsH_of_go Try.func39 rfl Try.ntmps39 (Nat.le_of_ble_eq_true rfl) ?_
  refine Go.seq ?_
  refine Go.region rfl ?_
  refine GoOps.q (v := .int .i64 0) rfl rfl (by decide) (q_assign rfl) ?_
  refine GoOps.nil ?_
  refine Go.seq ?_
  refine Go.region rfl ?_
  refine GoOps.q (v := .int .i64 p0) rfl rfl (by decide) (q_move rfl) ?_
  refine GoOps.q (v := .int .i64 p1) rfl rfl (by decide) (q_move rfl) ?_
  obtain ⟨hn1, h⟩ := h
  refine GoOps.q (v := .int .i64 (Int.tmod p0 p1)) rfl rfl (by decide) (q_rem hn1 rfl rfl) ?_
  refine GoOps.q (v := .int .i64 (Int.tmod p0 p1)) rfl rfl (by decide) (q_assign rfl) ?_
  refine GoOps.nil ?_
  refine Go.seq ?_
  refine Go.seq ?_
  refine Go.region rfl ?_
  refine GoOps.q (v := .int .i64 (Int.tmod p0 p1)) rfl rfl (by decide) (q_move rfl) ?_
  refine GoOps.q (v := .bool (decide ((Int.tmod p0 p1) < 0))) rfl rfl (by decide) (q_lss rfl rfl) ?_
  refine GoOps.nil ?_
  refine join_go 1 (fun ρ (s2 : Int) => ρ 5 = .int .i64 s2) h ?_ ?_ <;> clear h
  · intro s2 H4 ρ h hE
    have e5_5 := hE
    refine Go.seq ?_
    refine Go.region rfl ?_
    refine GoOps.q (v := .int .i64 s2) rfl rfl (by decide) (q_move e5_5) ?_
    refine GoOps.q (v := .int .i64 s2) rfl rfl (by decide) (q_assign rfl) ?_
    refine GoOps.nil ?_
    exact Go.ret ⟨.inl rfl, _, _, DOk.nil, (resOk1 Try.results39 rfl), ⟨_, rfl, h⟩⟩
  · intro j3 hj3 h
    rcases bor (decide ((Int.tmod p0 p1) < 0)) with hc6 | hc6
    · have h := h.1 hc6
      refine Go.condT (btT rfl hc6) ?_
      refine Go.region rfl ?_
      refine GoOps.q (v := .int .i64 (Int.tmod p0 p1)) rfl rfl (by decide) (q_move rfl) ?_
      refine GoOps.q (v := .int .i64 p1) rfl rfl (by decide) (q_move rfl) ?_
      refine GoOps.q (v := .int .i64 (IntKind.wrap .i64 ((Int.tmod p0 p1) + p1))) rfl rfl (by decide) (q_add rfl rfl) ?_
      refine GoOps.q (v := .int .i64 (IntKind.wrap .i64 ((Int.tmod p0 p1) + p1))) rfl rfl (by decide) (q_assign rfl) ?_
      refine GoOps.nil ?_
      exact hj3 _ _ _ h rfl
    · have h := h.2 hc6
      refine Go.condF (btF rfl hc6) ?_
      refine Go.skip ?_
      exact hj3 _ _ _ h rfl

/-- keelson.keelsonalike.Round -/
def keelsonalike_Round (p0 : Int) (p1 : Int) (H : PH) (Q : Int → PH → Prop) : Prop :=
  keelsonref1_Mod p0 p1 H fun y2 H1 =>
  Q y2 H1

set_option maxRecDepth 20000 in
set_option maxHeartbeats 1000000 in
theorem keelsonalike_Round_s (p0 : Int) (p1 : Int) (H : PH) (Q : Int → PH → Prop) (h : keelsonalike_Round p0 p1 H Q) :
    CallsH Try.prog 25 #[.int .i64 p0, .int .i64 p1] H (fun v H' => ∃ (r0 : Int), v = .int .i64 r0 ∧ Q r0 H') := by
  unfold keelsonalike_Round at h
  refine callsH_of_go Try.func25 rfl Try.ntmps25 (Nat.le_of_ble_eq_true rfl) ?_
  refine Go.seq ?_
  refine Go.region rfl ?_
  refine GoOps.q (v := .int .i64 0) rfl rfl (by decide) (q_assign rfl) ?_
  refine GoOps.nil ?_
  refine Go.seq ?_
  refine Go.region rfl ?_
  refine GoOps.q (v := .int .i64 p0) rfl rfl (by decide) (q_move rfl) ?_
  refine GoOps.q (v := .int .i64 p1) rfl rfl (by decide) (q_move rfl) ?_
  refine call_dst rfl (by decide) body39 (keelsonref1_Mod_s _ _ _ _ h) rfl ?_
  rintro _ H1 ⟨y2, rfl, h⟩
  refine GoOps.q (v := .int .i64 y2) rfl rfl (by decide) (q_assign rfl) ?_
  refine GoOps.nil ?_
  exact Go.ret ⟨.inl rfl, _, _, DOk.nil, (resOk1 Try.results25 rfl), ⟨_, rfl, h⟩⟩

/-- keelson.keelsonalike.Fill -/
def keelsonalike_Fill (p0 : Int) (H : PH) (Q : Sl → PH → Prop) : Prop :=
  mMk H 5 1 [.int .u8 0] 64 64 fun r1 H2 =>
  mLoop (fun (s5 : Int) (H8 : PH) (again6 : Int → PH → Prop) =>
  mIf (decide (s5 < 64))
  (keelsonalike_Round p0 256 H8 fun y11 H10 =>
  keelsonalike_Round (IntKind.wrap .i64 (y11 + s5)) 256 H10 fun y13 H12 =>
  mIdx r1 1 s5 fun a14 =>
  mSt H12 a14 ([.int .u8 (IntKind.wrap .u8 y13)]) fun H16 =>
  again6 (IntKind.wrap .i64 (s5 + 1)) H16)
  (Q r1 H8))
  0 H2

set_option maxRecDepth 20000 in
set_option maxHeartbeats 1000000 in
theorem keelsonalike_Fill_s (p0 : Int) (H : PH) (Q : Sl → PH → Prop) (h : keelsonalike_Fill p0 H Q) :
    CallsH Try.prog 27 #[.int .i64 p0] H (fun v H' => ∃ (r0 : Sl), v = Sl.v r0 ∧ Q r0 H') := by
  unfold keelsonalike_Fill at h
  refine callsH_of_go Try.func27 rfl Try.ntmps27 (Nat.le_of_ble_eq_true rfl) ?_
  refine Go.seq ?_
  refine Go.region rfl ?_
  refine GoOps.q (v := Sl.v Sl.nil) rfl rfl (by decide) (q_assign rfl) ?_
  refine GoOps.nil ?_
  refine Go.seq ?_
  refine Go.region rfl ?_
  obtain ⟨hm4, h⟩ := h
  refine op_dst rfl rfl (by decide) (do_mk (zs := [.int .u8 0]) slice27 bytes5 (by decide) zero5 rfl rfl (by decide) rfl rfl hm4 fun r1 H2 hb3 => ?_) 
  have h := h r1 H2 hb3
  refine GoOps.q (v := Sl.v r1) rfl rfl (by decide) (q_assign rfl) ?_
  refine GoOps.nil ?_
  refine Go.seq ?_
  refine Go.seq ?_
  refine Go.region rfl ?_
  refine GoOps.q (v := .int .i64 0) rfl rfl (by decide) (q_assign rfl) ?_
  refine GoOps.nil ?_
  refine Go.block ?_
  refine loop_go (fun ρ (s5 : Int) => ρ 0 = .int .i64 p0 ∧ ρ 3 = Sl.v r1 ∧ ρ 4 = .int .i64 s5) h ⟨rfl, rfl, rfl⟩ ?_
  clear h
  intro ρ s5 H8 again6 hE h hagain6
  obtain ⟨e7_0, e7_3, e7_4⟩ := hE
  refine Go.seq ?_
  refine Go.seq ?_
  refine Go.region rfl ?_
  refine GoOps.q (v := .int .i64 s5) rfl rfl (by decide) (q_move e7_4) ?_
  refine GoOps.q (v := .bool (decide (s5 < 64))) rfl rfl (by decide) (q_lss rfl rfl) ?_
  refine GoOps.nil ?_
  rcases bor (decide (s5 < 64)) with hc9 | hc9
  · have h := h.1 hc9
    refine Go.condT (btT rfl hc9) ?_
    refine Go.skip ?_
    refine Go.seq ?_
    refine Go.block ?_
    refine Go.region rfl ?_
    refine GoOps.q (v := Sl.v r1) rfl rfl (by decide) (q_move e7_3) ?_
    refine GoOps.q (v := .int .i64 s5) rfl rfl (by decide) (q_move e7_4) ?_
    refine GoOps.q (v := .int .i64 p0) rfl rfl (by decide) (q_move e7_0) ?_
    refine call_dst rfl (by decide) body25 (keelsonalike_Round_s _ _ _ _ h) rfl ?_
    rintro _ H10 ⟨y11, rfl, h⟩
    refine GoOps.q (v := .int .i64 s5) rfl rfl (by decide) (q_move e7_4) ?_
    refine GoOps.q (v := .int .i64 (IntKind.wrap .i64 (y11 + s5))) rfl rfl (by decide) (q_add rfl rfl) ?_
    refine call_dst rfl (by decide) body25 (keelsonalike_Round_s _ _ _ _ h) rfl ?_
    rintro _ H12 ⟨y13, rfl, h⟩
    refine GoOps.q (v := .int .u8 (IntKind.wrap .u8 y13)) rfl rfl (by decide) (q_conv Try.underlying3 Try.underlying5 rfl) ?_
    obtain ⟨a14, ha15, h⟩ := h
    refine GoOps.q (v := .pointer (some a14)) rfl rfl (by decide) (q_idx slice27 ha15 rfl rfl) ?_
    obtain ⟨q17b, q17o, q17c, q17e, hq17a, hq17b, hq17l, hq17v, h⟩ := h
    refine op_none rfl rfl (do_store (vs := [.int .u8 (IntKind.wrap .u8 y13)]) size5 (pta rfl hq17a) rfl rfl rfl hq17v hq17b hq17l ?_) 
    refine GoOps.nil ?_
    refine Go.inBlock ?_
    refine Go.region rfl ?_
    refine GoOps.q (v := .int .i64 s5) rfl rfl (by decide) (q_move e7_4) ?_
    refine GoOps.q (v := .int .i64 (IntKind.wrap .i64 (s5 + 1))) rfl rfl (by decide) (q_add rfl rfl) ?_
    refine GoOps.q (v := .int .i64 (IntKind.wrap .i64 (s5 + 1))) rfl rfl (by decide) (q_assign rfl) ?_
    refine GoOps.nil ?_
    exact hagain6 _ _ _ h ⟨e7_0, e7_3, rfl⟩
  · have h := h.2 hc9
    refine Go.condF (btF rfl hc9) ?_
    refine Go.exit rfl ?_
    refine Go.seq ?_
    refine Go.region rfl ?_
    refine GoOps.q (v := Sl.v r1) rfl rfl (by decide) (q_move e7_3) ?_
    refine GoOps.q (v := Sl.v r1) rfl rfl (by decide) (q_assign rfl) ?_
    refine GoOps.nil ?_
    exact Go.ret ⟨.inl rfl, _, _, DOk.nil, (resOk1 Try.results27 rfl), ⟨_, rfl, h⟩⟩

/-- (*keelson.ideal.Ideal).has -/
def ideal_Ideal_has (p0 : Option Addr) (p1 : Int) (p2 : Int) (H : PH) (Q : Bool → PH → Prop) : Prop :=
  mJoin (fun (s2 : Bool) (H4 : PH) =>
  mJoin (fun (s7 : Bool) (H9 : PH) =>
  mJoin (fun (s12 : Bool) (H14 : PH) =>
  mJoin (fun (s17 : Bool) (H19 : PH) =>
  Q s17 H19)
  fun j18 =>
  mIf s12
  (mNil p0 fun a21 =>
  mLd Sl.v H14 (a21.add 0) fun x23 =>
  j18 (decide (p1 ≤ (IntKind.wrap .i64 ((x23.len : Int) - p2)))) H14)
  (j18 false H14))
  fun j13 =>
  mIf s7
  (j13 (decide (0 ≤ p1)) H9)
  (j13 false H9))
  fun j8 =>
  mIf s2
  (mNil p0 fun a25 =>
  mLd Sl.v H4 (a25.add 0) fun x27 =>
  j8 (decide (p2 ≤ (x27.len : Int))) H4)
  (j8 false H4))
  fun j3 =>
  mIf (!(Option.isNone p0))
  (j3 (decide (1 ≤ p2)) H)
  (j3 false H)

set_option maxRecDepth 20000 in
set_option maxHeartbeats 1000000 in
theorem ideal_Ideal_has_s (p0 : Option Addr) (p1 : Int) (p2 : Int) (H : PH) (Q : Bool → PH → Prop) (h : ideal_Ideal_has p0 p1 p2 H Q) :
    CallsH Try.prog 32 #[.pointer p0, .int .i64 p1, .int .i64 p2] H (fun v H' => ∃ (r0 : Bool), v = .bool r0 ∧ Q r0 H') := by
  unfold ideal_Ideal_has at h
  refine callsH_of_go Try.func32 rfl Try.ntmps32 (Nat.le_of_ble_eq_true rfl) ?_
  refine Go.seq ?_
  refine Go.region rfl ?_
  refine GoOps.q (v := .bool false) rfl rfl (by decide) (q_assign rfl) ?_
  refine GoOps.nil ?_
  refine Go.seq ?_
  refine Go.region rfl ?_
  refine GoOps.q (v := .pointer p0) rfl rfl (by decide) (q_move rfl) ?_
  refine GoOps.q (v := .bool (!(Option.isNone p0))) rfl rfl (by decide) (q_neqPn Try.underlying24 rfl rfl) ?_
  refine GoOps.q (v := .bool (!(Option.isNone p0))) rfl rfl (by decide) (q_move rfl) ?_
  refine join_ops 3 (fun ρ (s2 : Bool) => ρ 0 = .pointer p0 ∧ ρ 1 = .int .i64 p1 ∧ ρ 2 = .int .i64 p2 ∧ ρ 12 = .bool s2) h ?_ ?_ <;> clear h
  · intro s2 H4 ρ h hE
    obtain ⟨e5_0, e5_1, e5_2, e5_12⟩ := hE
    refine GoOps.q (v := .bool s2) rfl rfl (by decide) (q_move e5_12) ?_
    refine join_ops 8 (fun ρ (s7 : Bool) => ρ 0 = .pointer p0 ∧ ρ 1 = .int .i64 p1 ∧ ρ 2 = .int .i64 p2 ∧ ρ 21 = .bool s7) h ?_ ?_ <;> clear h
    · intro s7 H9 ρ h hE
      obtain ⟨e10_0, e10_1, e10_2, e10_21⟩ := hE
      refine GoOps.q (v := .bool s7) rfl rfl (by decide) (q_move e10_21) ?_
      refine join_ops 3 (fun ρ (s12 : Bool) => ρ 0 = .pointer p0 ∧ ρ 1 = .int .i64 p1 ∧ ρ 2 = .int .i64 p2 ∧ ρ 25 = .bool s12) h ?_ ?_ <;> clear h
      · intro s12 H14 ρ h hE
        obtain ⟨e15_0, e15_1, e15_2, e15_25⟩ := hE
        refine GoOps.q (v := .bool s12) rfl rfl (by decide) (q_move e15_25) ?_
        refine join_ops 10 (fun ρ (s17 : Bool) => ρ 36 = .bool s17) h ?_ ?_ <;> clear h
        · intro s17 H19 ρ h hE
          have e20_36 := hE
          refine GoOps.q (v := .bool s17) rfl rfl (by decide) (q_assign e20_36) ?_
          refine GoOps.nil ?_
          exact Go.ret ⟨.inl rfl, _, _, DOk.nil, (resOk1 Try.results32 rfl), ⟨_, rfl, h⟩⟩
        · intro j18 hj18 h
          rcases bor s12 with hc16 | hc16
          · have h := h.1 hc16
            refine GoOps.q (v := .int .i64 p1) (want_yes rfl rfl rfl hc16) rfl (by decide) (q_move e15_1) ?_
            refine GoOps.q (v := .pointer p0) (want_yes rfl rfl rfl hc16) rfl (by decide) (q_move e15_0) ?_
            obtain ⟨a21, ha22, h⟩ := h
            refine GoOps.q (v := .pointer (some a21)) (want_yes rfl rfl rfl hc16) rfl (by decide) (q_nilCheck (ptn rfl ha22)) ?_
            refine GoOps.q (v := .pointer (some (a21.add 0))) (want_yes rfl rfl rfl hc16) rfl (by decide) (q_fieldAddr foff51_0 rfl) ?_
            obtain ⟨x23, hx24, h⟩ := h
            refine GoOps.q (v := Sl.v x23) (want_yes rfl rfl rfl hc16) rfl (by decide) (q_load scalar49 rfl hx24) ?_
            refine GoOps.q (v := .int .i64 (x23.len : Int)) (want_yes rfl rfl rfl hc16) rfl (by decide) (q_len Try.underlying49 rfl (ls1 rfl)) ?_
            refine GoOps.q (v := .int .i64 p2) (want_yes rfl rfl rfl hc16) rfl (by decide) (q_move e15_2) ?_
            refine GoOps.q (v := .int .i64 (IntKind.wrap .i64 ((x23.len : Int) - p2))) (want_yes rfl rfl rfl hc16) rfl (by decide) (q_sub rfl rfl) ?_
            refine GoOps.q (v := .bool (decide (p1 ≤ (IntKind.wrap .i64 ((x23.len : Int) - p2))))) (want_yes rfl rfl rfl hc16) rfl (by decide) (q_leq rfl rfl) ?_
            refine GoOps.q (v := .bool (decide (p1 ≤ (IntKind.wrap .i64 ((x23.len : Int) - p2))))) rfl rfl (by decide) (q_pickT (btT rfl hc16) rfl) ?_
            exact hj18 (decide (p1 ≤ (IntKind.wrap .i64 ((x23.len : Int) - p2)))) _ _ h (by exact rfl)
          · have h := h.2 hc16
            refine no_dst (want_no rfl rfl rfl hc16) rfl (by decide) ?_
            refine no_dst (want_no rfl rfl rfl hc16) rfl (by decide) ?_
            refine no_dst (want_no rfl rfl rfl hc16) rfl (by decide) ?_
            refine no_dst (want_no rfl rfl rfl hc16) rfl (by decide) ?_
            refine no_dst (want_no rfl rfl rfl hc16) rfl (by decide) ?_
            refine no_dst (want_no rfl rfl rfl hc16) rfl (by decide) ?_
            refine no_dst (want_no rfl rfl rfl hc16) rfl (by decide) ?_
            refine no_dst (want_no rfl rfl rfl hc16) rfl (by decide) ?_
            refine no_dst (want_no rfl rfl rfl hc16) rfl (by decide) ?_
            refine GoOps.q (v := .bool false) rfl rfl (by decide) (q_pickF (btF rfl hc16) rfl) ?_
            exact hj18 false _ _ h (by exact rfl)
      · intro j13 hj13 h
        rcases bor s7 with hc11 | hc11
        · have h := h.1 hc11
          refine GoOps.q (v := .int .i64 p1) (want_yes rfl rfl rfl hc11) rfl (by decide) (q_move e10_1) ?_
          refine GoOps.q (v := .bool (decide (0 ≤ p1))) (want_yes rfl rfl rfl hc11) rfl (by decide) (q_geq rfl rfl) ?_
          refine GoOps.q (v := .bool (decide (0 ≤ p1))) rfl rfl (by decide) (q_pickT (btT rfl hc11) rfl) ?_
          exact hj13 (decide (0 ≤ p1)) _ _ h (by exact ⟨e10_0, e10_1, e10_2, rfl⟩)
        · have h := h.2 hc11
          refine no_dst (want_no rfl rfl rfl hc11) rfl (by decide) ?_
          refine no_dst (want_no rfl rfl rfl hc11) rfl (by decide) ?_
          refine GoOps.q (v := .bool false) rfl rfl (by decide) (q_pickF (btF rfl hc11) rfl) ?_
          exact hj13 false _ _ h (by exact ⟨e10_0, e10_1, e10_2, rfl⟩)
    · intro j8 hj8 h
      rcases bor s2 with hc6 | hc6
      · have h := h.1 hc6
        refine GoOps.q (v := .int .i64 p2) (want_yes rfl rfl rfl hc6) rfl (by decide) (q_move e5_2) ?_
        refine GoOps.q (v := .pointer p0) (want_yes rfl rfl rfl hc6) rfl (by decide) (q_move e5_0) ?_
        obtain ⟨a25, ha26, h⟩ := h
        refine GoOps.q (v := .pointer (some a25)) (want_yes rfl rfl rfl hc6) rfl (by decide) (q_nilCheck (ptn rfl ha26)) ?_
        refine GoOps.q (v := .pointer (some (a25.add 0))) (want_yes rfl rfl rfl hc6) rfl (by decide) (q_fieldAddr foff51_0 rfl) ?_
        obtain ⟨x27, hx28, h⟩ := h
        refine GoOps.q (v := Sl.v x27) (want_yes rfl rfl rfl hc6) rfl (by decide) (q_load scalar49 rfl hx28) ?_
        refine GoOps.q (v := .int .i64 (x27.len : Int)) (want_yes rfl rfl rfl hc6) rfl (by decide) (q_len Try.underlying49 rfl (ls1 rfl)) ?_
        refine GoOps.q (v := .bool (decide (p2 ≤ (x27.len : Int)))) (want_yes rfl rfl rfl hc6) rfl (by decide) (q_leq rfl rfl) ?_
        refine GoOps.q (v := .bool (decide (p2 ≤ (x27.len : Int)))) rfl rfl (by decide) (q_pickT (btT rfl hc6) rfl) ?_
        exact hj8 (decide (p2 ≤ (x27.len : Int))) _ _ h (by exact ⟨e5_0, e5_1, e5_2, rfl⟩)
      · have h := h.2 hc6
        refine no_dst (want_no rfl rfl rfl hc6) rfl (by decide) ?_
        refine no_dst (want_no rfl rfl rfl hc6) rfl (by decide) ?_
        refine no_dst (want_no rfl rfl rfl hc6) rfl (by decide) ?_
        refine no_dst (want_no rfl rfl rfl hc6) rfl (by decide) ?_
        refine no_dst (want_no rfl rfl rfl hc6) rfl (by decide) ?_
        refine no_dst (want_no rfl rfl rfl hc6) rfl (by decide) ?_
        refine no_dst (want_no rfl rfl rfl hc6) rfl (by decide) ?_
        refine GoOps.q (v := .bool false) rfl rfl (by decide) (q_pickF (btF rfl hc6) rfl) ?_
        exact hj8 false _ _ h (by exact ⟨e5_0, e5_1, e5_2, rfl⟩)
  · intro j3 hj3 h
    rcases bor (!(Option.isNone p0)) with hc1 | hc1
    · have h := h.1 hc1
      refine GoOps.q (v := .int .i64 p2) (want_yes rfl rfl rfl hc1) rfl (by decide) (q_move rfl) ?_
      refine GoOps.q (v := .bool (decide (1 ≤ p2))) (want_yes rfl rfl rfl hc1) rfl (by decide) (q_geq rfl rfl) ?_
      refine GoOps.q (v := .bool (decide (1 ≤ p2))) rfl rfl (by decide) (q_pickT (btT rfl hc1) rfl) ?_
      exact hj3 (decide (1 ≤ p2)) _ _ h (by exact ⟨rfl, rfl, rfl, rfl⟩)
    · have h := h.2 hc1
      refine no_dst (want_no rfl rfl rfl hc1) rfl (by decide) ?_
      refine no_dst (want_no rfl rfl rfl hc1) rfl (by decide) ?_
      refine GoOps.q (v := .bool false) rfl rfl (by decide) (q_pickF (btF rfl hc1) rfl) ?_
      exact hj3 false _ _ h (by exact ⟨rfl, rfl, rfl, rfl⟩)

/-- (*keelson.ideal.Ideal).may -/
def ideal_Ideal_may (p0 : Option Addr) (p1 : (Int × Int × Int × Int × Sl)) (H : PH) (Q : Bool → PH → Prop) : Prop :=
  mNew H (row [.int .i64 p1.1, .int .i64 p1.2.1, .int .i64 p1.2.2.1, .int .i64 p1.2.2.2.1, Sl.v p1.2.2.2.2] 29) fun a1 H2 =>
  mLd (.int .i64) H2 (a1.add 0) fun x4 =>
  mJoin (fun (s6 : Bool) (H8 : PH) =>
  mIf s6
  (mLd (.int .i64) H8 (a1.add 1) fun x11 =>
  ideal_Ideal_has p0 x11 1 H8 fun y14 H13 =>
  mJoin (fun (s16 : Bool) (H18 : PH) =>
  mJoin (fun (s21 : Bool) (H23 : PH) =>
  mJoin (fun (s26 : Bool) (H28 : PH) =>
  Q s26 H28)
  fun j27 =>
  mIf s21
  (mLd Sl.v H23 (a1.add 4) fun x30 =>
  j27 ((x30.len : Int) == 64) H23)
  (j27 false H23))
  fun j22 =>
  mIf s16
  (mLd (.int .i64) H18 (a1.add 3) fun x32 =>
  j22 (x32 == 0) H18)
  (j22 false H18))
  fun j17 =>
  mIf y14
  (mLd (.int .i64) H13 (a1.add 2) fun x34 =>
  j17 (x34 == 0) H13)
  (j17 false H13))
  (mJoin (fun (s36 : Bool) (H38 : PH) =>
  mIf s36
  (mLd (.int .i64) H38 (a1.add 1) fun x41 =>
  mLd (.int .i64) H38 (a1.add 2) fun x43 =>
  ideal_Ideal_has p0 x41 x43 H38 fun y46 H45 =>
  mJoin (fun (s48 : Bool) (H50 : PH) =>
  mJoin (fun (s53 : Bool) (H55 : PH) =>
  Q s53 H55)
  fun j54 =>
  mIf s48
  (mLd Sl.v H50 (a1.add 4) fun x57 =>
  j54 ((x57.len : Int) == 0) H50)
  (j54 false H50))
  fun j49 =>
  mIf y46
  (mLd (.int .i64) H45 (a1.add 3) fun x59 =>
  j49 (x59 == 0) H45)
  (j49 false H45))
  (mIf (x4 == 3)
  (mJoin (fun (s63 : Bool) (H65 : PH) =>
  mJoin (fun (s68 : Bool) (H70 : PH) =>
  mJoin (fun (s73 : Bool) (H75 : PH) =>
  mJoin (fun (s78 : Bool) (H80 : PH) =>
  Q s78 H80)
  fun j79 =>
  mIf s73
  (mLd Sl.v H75 (a1.add 4) fun x82 =>
  j79 ((x82.len : Int) == 0) H75)
  (j79 false H75))
  fun j74 =>
  mIf s68
  (mLd (.int .i64) H70 (a1.add 2) fun x84 =>
  j74 (x84 == 0) H70)
  (j74 false H70))
  fun j69 =>
  mIf s63
  (mLd (.int .i64) H65 (a1.add 1) fun x86 =>
  j69 (x86 == 0) H65)
  (j69 false H65))
  fun j64 =>
  mIf (!(Option.isNone p0))
  (mLd (.int .i64) H38 (a1.add 3) fun x88 =>
  mNil p0 fun a90 =>
  mLd (.int .i64) H38 (a90.add 2) fun x92 =>
  j64 (x88 == (IntKind.wrap .i64 (x92 + 1))) H38)
  (j64 false H38))
  (Q false H38)))
  fun j37 =>
  mIf (x4 == 2)
  (j37 (x4 == 2) H8)
  (j37 (x4 == 6) H8)))
  fun j7 =>
  mIf (x4 == 1)
  (j7 (x4 == 1) H2)
  (j7 (x4 == 5) H2)

set_option maxRecDepth 20000 in
set_option maxHeartbeats 1000000 in
theorem ideal_Ideal_may_s (p0 : Option Addr) (p1 : (Int × Int × Int × Int × Sl)) (H : PH) (Q : Bool → PH → Prop) (h : ideal_Ideal_may p0 p1 H Q) :
    CallsH Try.prog 28 #[.pointer p0, .agg ([.int .i64 p1.1, .int .i64 p1.2.1, .int .i64 p1.2.2.1, .int .i64 p1.2.2.2.1, Sl.v p1.2.2.2.2] : List Value).toArray] H (fun v H' => ∃ (r0 : Bool), v = .bool r0 ∧ Q r0 H') := by
  unfold ideal_Ideal_may at h
  refine callsH_of_go Try.func28 rfl Try.ntmps28 (Nat.le_of_ble_eq_true rfl) ?_
  refine Go.seq ?_
  refine Go.region rfl ?_
  refine op_dst rfl rfl (by decide) (do_newBox (cs := [.int .i64 p1.1, .int .i64 p1.2.1, .int .i64 p1.2.2.1, .int .i64 p1.2.2.2.1, Sl.v p1.2.2.2.2]) rfl rfl fun a1 H2 hb3 => ?_) 
  have h := h a1 H2 hb3
  refine GoOps.q (v := .bool false) rfl rfl (by decide) (q_assign rfl) ?_
  refine GoOps.nil ?_
  refine Go.seq ?_
  refine Go.seq ?_
  refine Go.region rfl ?_
  refine GoOps.q (v := .pointer (some (a1.add 0))) rfl rfl (by decide) (q_fieldAddr foff29_0 rfl) ?_
  obtain ⟨x4, hx5, h⟩ := h
  refine GoOps.q (v := .int .i64 x4) rfl rfl (by decide) (q_load scalar3 rfl hx5) ?_
  refine GoOps.nil ?_
  refine Go.block ?_
  refine Go.seq ?_
  refine Go.seq ?_
  refine Go.region rfl ?_
  refine GoOps.q (v := .bool (x4 == 1)) rfl rfl (by decide) (q_eql rfl rfl) ?_
  refine GoOps.q (v := .bool (x4 == 1)) rfl rfl (by decide) (q_assign rfl) ?_
  refine GoOps.nil ?_
  refine join_go 1 (fun ρ (s6 : Bool) => ρ 0 = .pointer p0 ∧ ρ 3 = .pointer (some a1) ∧ ρ 6 = .int .i64 x4 ∧ ρ 7 = .bool s6) h ?_ ?_ <;> clear h
  · intro s6 H8 ρ h hE
    obtain ⟨e9_0, e9_3, e9_6, e9_7⟩ := hE
    rcases bor s6 with hc10 | hc10
    · have h := h.1 hc10
      refine Go.condT (btT e9_7 hc10) ?_
      refine Go.seq ?_
      refine Go.region rfl ?_
      refine GoOps.q (v := .pointer p0) rfl rfl (by decide) (q_move e9_0) ?_
      refine GoOps.q (v := .pointer (some (a1.add 1))) rfl rfl (by decide) (q_fieldAddr foff29_1 e9_3) ?_
      obtain ⟨x11, hx12, h⟩ := h
      refine GoOps.q (v := .int .i64 x11) rfl rfl (by decide) (q_load scalar3 rfl hx12) ?_
      refine call_dst rfl (by decide) body32 (ideal_Ideal_has_s _ _ _ _ _ h) rfl ?_
      rintro _ H13 ⟨y14, rfl, h⟩
      refine GoOps.q (v := .bool y14) rfl rfl (by decide) (q_move rfl) ?_
      refine join_ops 4 (fun ρ (s16 : Bool) => ρ 3 = .pointer (some a1) ∧ ρ 18 = .bool s16) h ?_ ?_ <;> clear h
      · intro s16 H18 ρ h hE
        obtain ⟨e19_3, e19_18⟩ := hE
        refine GoOps.q (v := .bool s16) rfl rfl (by decide) (q_move e19_18) ?_
        refine join_ops 4 (fun ρ (s21 : Bool) => ρ 3 = .pointer (some a1) ∧ ρ 23 = .bool s21) h ?_ ?_ <;> clear h
        · intro s21 H23 ρ h hE
          obtain ⟨e24_3, e24_23⟩ := hE
          refine GoOps.q (v := .bool s21) rfl rfl (by decide) (q_move e24_23) ?_
          refine join_ops 5 (fun ρ (s26 : Bool) => ρ 29 = .bool s26) h ?_ ?_ <;> clear h
          · intro s26 H28 ρ h hE
            have e29_29 := hE
            refine GoOps.q (v := .bool s26) rfl rfl (by decide) (q_assign e29_29) ?_
            refine GoOps.nil ?_
            exact Go.ret ⟨.inl rfl, _, _, DOk.nil, (resOk1 Try.results28 rfl), ⟨_, rfl, h⟩⟩
          · intro j27 hj27 h
            rcases bor s21 with hc25 | hc25
            · have h := h.1 hc25
              refine GoOps.q (v := .pointer (some (a1.add 4))) (want_yes rfl rfl rfl hc25) rfl (by decide) (q_fieldAddr foff29_4 e24_3) ?_
              obtain ⟨x30, hx31, h⟩ := h
              refine GoOps.q (v := Sl.v x30) (want_yes rfl rfl rfl hc25) rfl (by decide) (q_load scalar27 rfl hx31) ?_
              refine GoOps.q (v := .int .i64 (x30.len : Int)) (want_yes rfl rfl rfl hc25) rfl (by decide) (q_len Try.underlying27 rfl (ls1 rfl)) ?_
              refine GoOps.q (v := .bool ((x30.len : Int) == 64)) (want_yes rfl rfl rfl hc25) rfl (by decide) (q_eql rfl rfl) ?_
              refine GoOps.q (v := .bool ((x30.len : Int) == 64)) rfl rfl (by decide) (q_pickT (btT rfl hc25) rfl) ?_
              exact hj27 ((x30.len : Int) == 64) _ _ h (by exact rfl)
            · have h := h.2 hc25
              refine no_dst (want_no rfl rfl rfl hc25) rfl (by decide) ?_
              refine no_dst (want_no rfl rfl rfl hc25) rfl (by decide) ?_
              refine no_dst (want_no rfl rfl rfl hc25) rfl (by decide) ?_
              refine no_dst (want_no rfl rfl rfl hc25) rfl (by decide) ?_
              refine GoOps.q (v := .bool false) rfl rfl (by decide) (q_pickF (btF rfl hc25) rfl) ?_
              exact hj27 false _ _ h (by exact rfl)
        · intro j22 hj22 h
          rcases bor s16 with hc20 | hc20
          · have h := h.1 hc20
            refine GoOps.q (v := .pointer (some (a1.add 3))) (want_yes rfl rfl rfl hc20) rfl (by decide) (q_fieldAddr foff29_3 e19_3) ?_
            obtain ⟨x32, hx33, h⟩ := h
            refine GoOps.q (v := .int .i64 x32) (want_yes rfl rfl rfl hc20) rfl (by decide) (q_load scalar3 rfl hx33) ?_
            refine GoOps.q (v := .bool (x32 == 0)) (want_yes rfl rfl rfl hc20) rfl (by decide) (q_eql rfl rfl) ?_
            refine GoOps.q (v := .bool (x32 == 0)) rfl rfl (by decide) (q_pickT (btT rfl hc20) rfl) ?_
            exact hj22 (x32 == 0) _ _ h (by exact ⟨e19_3, rfl⟩)
          · have h := h.2 hc20
            refine no_dst (want_no rfl rfl rfl hc20) rfl (by decide) ?_
            refine no_dst (want_no rfl rfl rfl hc20) rfl (by decide) ?_
            refine no_dst (want_no rfl rfl rfl hc20) rfl (by decide) ?_
            refine GoOps.q (v := .bool false) rfl rfl (by decide) (q_pickF (btF rfl hc20) rfl) ?_
            exact hj22 false _ _ h (by exact ⟨e19_3, rfl⟩)
      · intro j17 hj17 h
        rcases bor y14 with hc15 | hc15
        · have h := h.1 hc15
          refine GoOps.q (v := .pointer (some (a1.add 2))) (want_yes rfl rfl rfl hc15) rfl (by decide) (q_fieldAddr foff29_2 e9_3) ?_
          obtain ⟨x34, hx35, h⟩ := h
          refine GoOps.q (v := .int .i64 x34) (want_yes rfl rfl rfl hc15) rfl (by decide) (q_load scalar3 rfl hx35) ?_
          refine GoOps.q (v := .bool (x34 == 0)) (want_yes rfl rfl rfl hc15) rfl (by decide) (q_eql rfl rfl) ?_
          refine GoOps.q (v := .bool (x34 == 0)) rfl rfl (by decide) (q_pickT (btT rfl hc15) rfl) ?_
          exact hj17 (x34 == 0) _ _ h (by exact ⟨e9_3, rfl⟩)
        · have h := h.2 hc15
          refine no_dst (want_no rfl rfl rfl hc15) rfl (by decide) ?_
          refine no_dst (want_no rfl rfl rfl hc15) rfl (by decide) ?_
          refine no_dst (want_no rfl rfl rfl hc15) rfl (by decide) ?_
          refine GoOps.q (v := .bool false) rfl rfl (by decide) (q_pickF (btF rfl hc15) rfl) ?_
          exact hj17 false _ _ h (by exact ⟨e9_3, rfl⟩)
    · have h := h.2 hc10
      refine Go.condF (btF e9_7 hc10) ?_
      refine Go.seq ?_
      refine Go.seq ?_
      refine Go.region rfl ?_
      refine GoOps.q (v := .bool (x4 == 2)) rfl rfl (by decide) (q_eql e9_6 rfl) ?_
      refine GoOps.q (v := .bool (x4 == 2)) rfl rfl (by decide) (q_assign rfl) ?_
      refine GoOps.nil ?_
      refine join_go 1 (fun ρ (s36 : Bool) => ρ 0 = .pointer p0 ∧ ρ 3 = .pointer (some a1) ∧ ρ 6 = .int .i64 x4 ∧ ρ 30 = .bool s36) h ?_ ?_ <;> clear h
      · intro s36 H38 ρ h hE
        obtain ⟨e39_0, e39_3, e39_6, e39_30⟩ := hE
        rcases bor s36 with hc40 | hc40
        · have h := h.1 hc40
          refine Go.condT (btT e39_30 hc40) ?_
          refine Go.seq ?_
          refine Go.region rfl ?_
          refine GoOps.q (v := .pointer p0) rfl rfl (by decide) (q_move e39_0) ?_
          refine GoOps.q (v := .pointer (some (a1.add 1))) rfl rfl (by decide) (q_fieldAddr foff29_1 e39_3) ?_
          obtain ⟨x41, hx42, h⟩ := h
          refine GoOps.q (v := .int .i64 x41) rfl rfl (by decide) (q_load scalar3 rfl hx42) ?_
          refine GoOps.q (v := .pointer (some (a1.add 2))) rfl rfl (by decide) (q_fieldAddr foff29_2 e39_3) ?_
          obtain ⟨x43, hx44, h⟩ := h
          refine GoOps.q (v := .int .i64 x43) rfl rfl (by decide) (q_load scalar3 rfl hx44) ?_
          refine call_dst rfl (by decide) body32 (ideal_Ideal_has_s _ _ _ _ _ h) rfl ?_
          rintro _ H45 ⟨y46, rfl, h⟩
          refine GoOps.q (v := .bool y46) rfl rfl (by decide) (q_move rfl) ?_
          refine join_ops 4 (fun ρ (s48 : Bool) => ρ 3 = .pointer (some a1) ∧ ρ 43 = .bool s48) h ?_ ?_ <;> clear h
          · intro s48 H50 ρ h hE
            obtain ⟨e51_3, e51_43⟩ := hE
            refine GoOps.q (v := .bool s48) rfl rfl (by decide) (q_move e51_43) ?_
            refine join_ops 5 (fun ρ (s53 : Bool) => ρ 49 = .bool s53) h ?_ ?_ <;> clear h
            · intro s53 H55 ρ h hE
              have e56_49 := hE
              refine GoOps.q (v := .bool s53) rfl rfl (by decide) (q_assign e56_49) ?_
              refine GoOps.nil ?_
              exact Go.ret ⟨.inl rfl, _, _, DOk.nil, (resOk1 Try.results28 rfl), ⟨_, rfl, h⟩⟩
            · intro j54 hj54 h
              rcases bor s48 with hc52 | hc52
              · have h := h.1 hc52
                refine GoOps.q (v := .pointer (some (a1.add 4))) (want_yes rfl rfl rfl hc52) rfl (by decide) (q_fieldAddr foff29_4 e51_3) ?_
                obtain ⟨x57, hx58, h⟩ := h
                refine GoOps.q (v := Sl.v x57) (want_yes rfl rfl rfl hc52) rfl (by decide) (q_load scalar27 rfl hx58) ?_
                refine GoOps.q (v := .int .i64 (x57.len : Int)) (want_yes rfl rfl rfl hc52) rfl (by decide) (q_len Try.underlying27 rfl (ls1 rfl)) ?_
                refine GoOps.q (v := .bool ((x57.len : Int) == 0)) (want_yes rfl rfl rfl hc52) rfl (by decide) (q_eql rfl rfl) ?_
                refine GoOps.q (v := .bool ((x57.len : Int) == 0)) rfl rfl (by decide) (q_pickT (btT rfl hc52) rfl) ?_
                exact hj54 ((x57.len : Int) == 0) _ _ h (by exact rfl)
              · have h := h.2 hc52
                refine no_dst (want_no rfl rfl rfl hc52) rfl (by decide) ?_
                refine no_dst (want_no rfl rfl rfl hc52) rfl (by decide) ?_
                refine no_dst (want_no rfl rfl rfl hc52) rfl (by decide) ?_
                refine no_dst (want_no rfl rfl rfl hc52) rfl (by decide) ?_
                refine GoOps.q (v := .bool false) rfl rfl (by decide) (q_pickF (btF rfl hc52) rfl) ?_
                exact hj54 false _ _ h (by exact rfl)
          · intro j49 hj49 h
            rcases bor y46 with hc47 | hc47
            · have h := h.1 hc47
              refine GoOps.q (v := .pointer (some (a1.add 3))) (want_yes rfl rfl rfl hc47) rfl (by decide) (q_fieldAddr foff29_3 e39_3) ?_
              obtain ⟨x59, hx60, h⟩ := h
              refine GoOps.q (v := .int .i64 x59) (want_yes rfl rfl rfl hc47) rfl (by decide) (q_load scalar3 rfl hx60) ?_
              refine GoOps.q (v := .bool (x59 == 0)) (want_yes rfl rfl rfl hc47) rfl (by decide) (q_eql rfl rfl) ?_
              refine GoOps.q (v := .bool (x59 == 0)) rfl rfl (by decide) (q_pickT (btT rfl hc47) rfl) ?_
              exact hj49 (x59 == 0) _ _ h (by exact ⟨e39_3, rfl⟩)
            · have h := h.2 hc47
              refine no_dst (want_no rfl rfl rfl hc47) rfl (by decide) ?_
              refine no_dst (want_no rfl rfl rfl hc47) rfl (by decide) ?_
              refine no_dst (want_no rfl rfl rfl hc47) rfl (by decide) ?_
              refine GoOps.q (v := .bool false) rfl rfl (by decide) (q_pickF (btF rfl hc47) rfl) ?_
              exact hj49 false _ _ h (by exact ⟨e39_3, rfl⟩)
        · have h := h.2 hc40
          refine Go.condF (btF e39_30 hc40) ?_
          refine Go.seq ?_
          refine Go.region rfl ?_
          refine GoOps.q (v := .bool (x4 == 3)) rfl rfl (by decide) (q_eql e39_6 rfl) ?_
          refine GoOps.q (v := .bool (x4 == 3)) rfl rfl (by decide) (q_assign rfl) ?_
          refine GoOps.nil ?_
          rcases bor (x4 == 3) with hc61 | hc61
          · have h := h.1 hc61
            refine Go.condT (btT rfl hc61) ?_
            refine Go.seq ?_
            refine Go.draw mixed ?_
            refine plan_pure (i := 0) (d := 52) (S2 := 1) (v := .pointer p0) rfl (by decide +kernel) rfl (q_move e39_0) ?_
            refine plan_pure (i := 1) (d := 53) (S2 := 3) (v := .bool (!(Option.isNone p0))) rfl (by decide +kernel) rfl (q_neqPn Try.underlying24 rfl rfl) ?_
            refine plan_pure (i := 2) (d := 54) (S2 := 7) (v := .bool (!(Option.isNone p0))) rfl (by decide +kernel) rfl (q_move rfl) ?_
            refine join_plan 4095 [8, 4] (fun ρ (s63 : Bool) => ρ 3 = .pointer (some a1) ∧ ρ 63 = .bool s63) h ?_ ?_ <;> clear h
            · intro s63 H65 ρ h hE
              obtain ⟨e66_3, e66_63⟩ := hE
              refine plan_pure (i := 12) (d := 64) (S2 := 8191) (v := .bool s63) rfl (by decide +kernel) rfl (q_move e66_63) ?_
              refine join_plan 131071 [14, 8, 4] (fun ρ (s68 : Bool) => ρ 3 = .pointer (some a1) ∧ ρ 68 = .bool s68) h ?_ ?_ <;> clear h
              · intro s68 H70 ρ h hE
                obtain ⟨e71_3, e71_68⟩ := hE
                refine plan_pure (i := 17) (d := 69) (S2 := 262143) (v := .bool s68) rfl (by decide +kernel) rfl (q_move e71_68) ?_
                refine join_plan 4194303 [19, 14, 8, 4] (fun ρ (s73 : Bool) => ρ 3 = .pointer (some a1) ∧ ρ 73 = .bool s73) h ?_ ?_ <;> clear h
                · intro s73 H75 ρ h hE
                  obtain ⟨e76_3, e76_73⟩ := hE
                  refine plan_pure (i := 22) (d := 74) (S2 := 8388607) (v := .bool s73) rfl (by decide +kernel) rfl (q_move e76_73) ?_
                  refine join_plan 268435455 [24, 19, 14, 8, 4] (fun ρ (s78 : Bool) => ρ 79 = .bool s78) h ?_ ?_ <;> clear h
                  · intro s78 H80 ρ h hE
                    have e81_79 := hE
                    refine plan_pure (i := 28) (d := 4) (S2 := 536870911) (v := .bool s78) rfl (by decide +kernel) rfl (q_assign e81_79) ?_
                    refine plan_done (by decide +kernel) ?_
                    exact Go.ret ⟨.inl rfl, _, _, DOk.nil, (resOk1 Try.results28 rfl), ⟨_, rfl, h⟩⟩
                  · intro j79 hj79 h
                    rcases bor s73 with hc77 | hc77
                    · have h := h.1 hc77
                      refine plan_pure (i := 23) (d := 75) (S2 := 16777215) (v := .pointer (some (a1.add 4))) rfl (by decide +kernel) (want_yes rfl rfl rfl hc77) (q_fieldAddr foff29_4 e76_3) ?_
                      obtain ⟨x82, hx83, h⟩ := h
                      refine plan_load (i := 24) (d := 76) (S2 := 33554431) (v := Sl.v x82) rfl (by decide +kernel) (want_yes rfl rfl rfl hc77) (q_load scalar27 rfl hx83) ?_
                      refine plan_pure (i := 25) (d := 77) (S2 := 67108863) (v := .int .i64 (x82.len : Int)) rfl (by decide +kernel) (want_yes rfl rfl rfl hc77) (q_len Try.underlying27 rfl (ls1 rfl)) ?_
                      refine plan_pure (i := 26) (d := 78) (S2 := 134217727) (v := .bool ((x82.len : Int) == 0)) rfl (by decide +kernel) (want_yes rfl rfl rfl hc77) (q_eql rfl rfl) ?_
                      refine plan_pure (i := 27) (d := 79) (S2 := 268435455) (v := .bool ((x82.len : Int) == 0)) rfl (by decide +kernel) rfl (q_pickT (btT rfl hc77) rfl) ?_
                      exact hj79 _ _ _ h rfl
                    · have h := h.2 hc77
                      refine plan_skip (i := 23) (d := 75) (S2 := 16777215) rfl (by decide +kernel) (want_no rfl rfl rfl hc77) ?_
                      refine plan_skip (i := 24) (d := 76) (S2 := 33554431) rfl (by decide +kernel) (want_no rfl rfl rfl hc77) ?_
                      refine plan_skip (i := 25) (d := 77) (S2 := 67108863) rfl (by decide +kernel) (want_no rfl rfl rfl hc77) ?_
                      refine plan_skip (i := 26) (d := 78) (S2 := 134217727) rfl (by decide +kernel) (want_no rfl rfl rfl hc77) ?_
                      refine plan_pure (i := 27) (d := 79) (S2 := 268435455) (v := .bool false) rfl (by decide +kernel) rfl (q_pickF (btF rfl hc77) rfl) ?_
                      refine plan_weaken (L2 := [24, 19, 14, 8, 4]) (by decide) ?_
                      exact hj79 _ _ _ h rfl
                · intro j74 hj74 h
                  rcases bor s68 with hc72 | hc72
                  · have h := h.1 hc72
                    refine plan_pure (i := 18) (d := 70) (S2 := 524287) (v := .pointer (some (a1.add 2))) rfl (by decide +kernel) (want_yes rfl rfl rfl hc72) (q_fieldAddr foff29_2 e71_3) ?_
                    obtain ⟨x84, hx85, h⟩ := h
                    refine plan_load (i := 19) (d := 71) (S2 := 1048575) (v := .int .i64 x84) rfl (by decide +kernel) (want_yes rfl rfl rfl hc72) (q_load scalar3 rfl hx85) ?_
                    refine plan_pure (i := 20) (d := 72) (S2 := 2097151) (v := .bool (x84 == 0)) rfl (by decide +kernel) (want_yes rfl rfl rfl hc72) (q_eql rfl rfl) ?_
                    refine plan_pure (i := 21) (d := 73) (S2 := 4194303) (v := .bool (x84 == 0)) rfl (by decide +kernel) rfl (q_pickT (btT rfl hc72) rfl) ?_
                    exact hj74 _ _ _ h ⟨e71_3, rfl⟩
                  · have h := h.2 hc72
                    refine plan_skip (i := 18) (d := 70) (S2 := 524287) rfl (by decide +kernel) (want_no rfl rfl rfl hc72) ?_
                    refine plan_skip (i := 19) (d := 71) (S2 := 1048575) rfl (by decide +kernel) (want_no rfl rfl rfl hc72) ?_
                    refine plan_skip (i := 20) (d := 72) (S2 := 2097151) rfl (by decide +kernel) (want_no rfl rfl rfl hc72) ?_
                    refine plan_pure (i := 21) (d := 73) (S2 := 4194303) (v := .bool false) rfl (by decide +kernel) rfl (q_pickF (btF rfl hc72) rfl) ?_
                    refine plan_weaken (L2 := [19, 14, 8, 4]) (by decide) ?_
                    exact hj74 _ _ _ h ⟨e71_3, rfl⟩
              · intro j69 hj69 h
                rcases bor s63 with hc67 | hc67
                · have h := h.1 hc67
                  refine plan_pure (i := 13) (d := 65) (S2 := 16383) (v := .pointer (some (a1.add 1))) rfl (by decide +kernel) (want_yes rfl rfl rfl hc67) (q_fieldAddr foff29_1 e66_3) ?_
                  obtain ⟨x86, hx87, h⟩ := h
                  refine plan_load (i := 14) (d := 66) (S2 := 32767) (v := .int .i64 x86) rfl (by decide +kernel) (want_yes rfl rfl rfl hc67) (q_load scalar3 rfl hx87) ?_
                  refine plan_pure (i := 15) (d := 67) (S2 := 65535) (v := .bool (x86 == 0)) rfl (by decide +kernel) (want_yes rfl rfl rfl hc67) (q_eql rfl rfl) ?_
                  refine plan_pure (i := 16) (d := 68) (S2 := 131071) (v := .bool (x86 == 0)) rfl (by decide +kernel) rfl (q_pickT (btT rfl hc67) rfl) ?_
                  exact hj69 _ _ _ h ⟨e66_3, rfl⟩
                · have h := h.2 hc67
                  refine plan_skip (i := 13) (d := 65) (S2 := 16383) rfl (by decide +kernel) (want_no rfl rfl rfl hc67) ?_
                  refine plan_skip (i := 14) (d := 66) (S2 := 32767) rfl (by decide +kernel) (want_no rfl rfl rfl hc67) ?_
                  refine plan_skip (i := 15) (d := 67) (S2 := 65535) rfl (by decide +kernel) (want_no rfl rfl rfl hc67) ?_
                  refine plan_pure (i := 16) (d := 68) (S2 := 131071) (v := .bool false) rfl (by decide +kernel) rfl (q_pickF (btF rfl hc67) rfl) ?_
                  refine plan_weaken (L2 := [14, 8, 4]) (by decide) ?_
                  exact hj69 _ _ _ h ⟨e66_3, rfl⟩
            · intro j64 hj64 h
              rcases bor (!(Option.isNone p0)) with hc62 | hc62
              · have h := h.1 hc62
                refine plan_pure (i := 3) (d := 55) (S2 := 15) (v := .pointer (some (a1.add 3))) rfl (by decide +kernel) (want_yes rfl rfl rfl hc62) (q_fieldAddr foff29_3 e39_3) ?_
                obtain ⟨x88, hx89, h⟩ := h
                refine plan_load (i := 4) (d := 56) (S2 := 31) (v := .int .i64 x88) rfl (by decide +kernel) (want_yes rfl rfl rfl hc62) (q_load scalar3 rfl hx89) ?_
                refine plan_pure (i := 5) (d := 57) (S2 := 63) (v := .pointer p0) rfl (by decide +kernel) (want_yes rfl rfl rfl hc62) (q_move e39_0) ?_
                obtain ⟨a90, ha91, h⟩ := h
                refine plan_pure (i := 6) (d := 58) (S2 := 127) (v := .pointer (some a90)) rfl (by decide +kernel) (want_yes rfl rfl rfl hc62) (q_nilCheck (ptn rfl ha91)) ?_
                refine plan_pure (i := 7) (d := 59) (S2 := 255) (v := .pointer (some (a90.add 2))) rfl (by decide +kernel) (want_yes rfl rfl rfl hc62) (q_fieldAddr foff51_2 rfl) ?_
                obtain ⟨x92, hx93, h⟩ := h
                refine plan_load (i := 8) (d := 60) (S2 := 511) (v := .int .i64 x92) rfl (by decide +kernel) (want_yes rfl rfl rfl hc62) (q_load scalar3 rfl hx93) ?_
                refine plan_pure (i := 9) (d := 61) (S2 := 1023) (v := .int .i64 (IntKind.wrap .i64 (x92 + 1))) rfl (by decide +kernel) (want_yes rfl rfl rfl hc62) (q_add rfl rfl) ?_
                refine plan_pure (i := 10) (d := 62) (S2 := 2047) (v := .bool (x88 == (IntKind.wrap .i64 (x92 + 1)))) rfl (by decide +kernel) (want_yes rfl rfl rfl hc62) (q_eql rfl rfl) ?_
                refine plan_pure (i := 11) (d := 63) (S2 := 4095) (v := .bool (x88 == (IntKind.wrap .i64 (x92 + 1)))) rfl (by decide +kernel) rfl (q_pickT (btT rfl hc62) rfl) ?_
                exact hj64 _ _ _ h ⟨e39_3, rfl⟩
              · have h := h.2 hc62
                refine plan_skip (i := 3) (d := 55) (S2 := 15) rfl (by decide +kernel) (want_no rfl rfl rfl hc62) ?_
                refine plan_skip (i := 4) (d := 56) (S2 := 31) rfl (by decide +kernel) (want_no rfl rfl rfl hc62) ?_
                refine plan_skip (i := 5) (d := 57) (S2 := 63) rfl (by decide +kernel) (want_no rfl rfl rfl hc62) ?_
                refine plan_skip (i := 6) (d := 58) (S2 := 127) rfl (by decide +kernel) (want_no rfl rfl rfl hc62) ?_
                refine plan_skip (i := 7) (d := 59) (S2 := 255) rfl (by decide +kernel) (want_no rfl rfl rfl hc62) ?_
                refine plan_skip (i := 8) (d := 60) (S2 := 511) rfl (by decide +kernel) (want_no rfl rfl rfl hc62) ?_
                refine plan_skip (i := 9) (d := 61) (S2 := 1023) rfl (by decide +kernel) (want_no rfl rfl rfl hc62) ?_
                refine plan_skip (i := 10) (d := 62) (S2 := 2047) rfl (by decide +kernel) (want_no rfl rfl rfl hc62) ?_
                refine plan_pure (i := 11) (d := 63) (S2 := 4095) (v := .bool false) rfl (by decide +kernel) rfl (q_pickF (btF rfl hc62) rfl) ?_
                refine plan_weaken (L2 := [8, 4]) (by decide) ?_
                exact hj64 _ _ _ h ⟨e39_3, rfl⟩
          · have h := h.2 hc61
            refine Go.condF (btF rfl hc61) ?_
            refine Go.skip ?_
            refine Go.inBlock ?_
            refine Go.seq ?_
            refine Go.region rfl ?_
            refine GoOps.q (v := .bool false) rfl rfl (by decide) (q_assign rfl) ?_
            refine GoOps.nil ?_
            exact Go.ret ⟨.inl rfl, _, _, DOk.nil, (resOk1 Try.results28 rfl), ⟨_, rfl, h⟩⟩
      · intro j37 hj37 h
        rcases bor (x4 == 2) with hc94 | hc94
        · have h := h.1 hc94
          refine Go.condT (btT rfl hc94) ?_
          refine Go.skip ?_
          exact hj37 _ _ _ h ⟨e9_0, e9_3, e9_6, rfl⟩
        · have h := h.2 hc94
          refine Go.condF (btF rfl hc94) ?_
          refine Go.region rfl ?_
          refine GoOps.q (v := .bool (x4 == 6)) rfl rfl (by decide) (q_eql e9_6 rfl) ?_
          refine GoOps.q (v := .bool (x4 == 6)) rfl rfl (by decide) (q_assign rfl) ?_
          refine GoOps.nil ?_
          exact hj37 _ _ _ h ⟨e9_0, e9_3, e9_6, rfl⟩
  · intro j7 hj7 h
    rcases bor (x4 == 1) with hc95 | hc95
    · have h := h.1 hc95
      refine Go.condT (btT rfl hc95) ?_
      refine Go.skip ?_
      exact hj7 _ _ _ h ⟨rfl, rfl, rfl, rfl⟩
    · have h := h.2 hc95
      refine Go.condF (btF rfl hc95) ?_
      refine Go.region rfl ?_
      refine GoOps.q (v := .bool (x4 == 5)) rfl rfl (by decide) (q_eql rfl rfl) ?_
      refine GoOps.q (v := .bool (x4 == 5)) rfl rfl (by decide) (q_assign rfl) ?_
      refine GoOps.nil ?_
      exact hj7 _ _ _ h ⟨rfl, rfl, rfl, rfl⟩

/-- (*keelson.ideal.Ideal).mark -/
def ideal_Ideal_mark (p0 : Option Addr) (p1 : Int) (H : PH) (Q : PH → Prop) : Prop :=
  mNil p0 fun a1 =>
  mLd Sl.v H (a1.add 1) fun x3 =>
  mLoop (fun (s5 : Int) (H8 : PH) (again6 : Int → PH → Prop) =>
  mIf (decide (s5 < (x3.len : Int)))
  (mJoin (fun (s10 : Unit) (H12 : PH) =>
  again6 (IntKind.wrap .i64 (s5 + 1)) H12)
  fun j11 =>
  mIdx x3 1 s5 fun a14 =>
  mLd Sl.v H8 a14 fun x16 =>
  mIf (!(Option.isNone x16.a))
  (mNil p0 fun a19 =>
  mLd Sl.v H8 (a19.add 0) fun x21 =>
  mNil p0 fun a23 =>
  mLd Sl.v H8 (a23.add 1) fun x25 =>
  mIdx x21 1 s5 fun a27 =>
  mSt H8 a27 ([Sl.v x16]) fun H29 =>
  mIdx x25 1 s5 fun a31 =>
  mSt H29 a31 ([Sl.v Sl.nil]) fun H33 =>
  j11 () H33)
  (j11 () H8))
  (mNil p0 fun a35 =>
  mLd (.int .i64) H8 (a35.add 3) fun x37 =>
  mNil p0 fun a39 =>
  mSt H8 (a39.add 2) ([.int .i64 p1]) fun H41 =>
  mNil p0 fun a43 =>
  mSt H41 (a43.add 3) ([.int .i64 (IntKind.wrap .i64 (x37 + 1))]) fun H45 =>
  mNil p0 fun a47 =>
  mLd (.int .i64) H45 (a47.add 3) fun x49 =>
  mNil p0 fun a51 =>
  mSt H45 (a51.add 4) ([.int .i64 x49]) fun H53 =>
  Q H53))
  0 H

set_option maxRecDepth 20000 in
set_option maxHeartbeats 1000000 in
theorem ideal_Ideal_mark_s (p0 : Option Addr) (p1 : Int) (H : PH) (Q : PH → Prop) (h : ideal_Ideal_mark p0 p1 H Q) :
    CallsH Try.prog 29 #[.pointer p0, .int .i64 p1] H (fun v H' => v = .tuple #[] ∧ Q H') := by
  unfold ideal_Ideal_mark at h
  refine callsH_of_go Try.func29 rfl Try.ntmps29 (Nat.le_of_ble_eq_true rfl) ?_
  refine Go.seq ?_
  refine Go.seq ?_
  refine Go.region rfl ?_
  refine GoOps.q (v := .pointer p0) rfl rfl (by decide) (q_move rfl) ?_
  obtain ⟨a1, ha2, h⟩ := h
  refine GoOps.q (v := .pointer (some a1)) rfl rfl (by decide) (q_nilCheck (ptn rfl ha2)) ?_
  refine GoOps.q (v := .pointer (some (a1.add 1))) rfl rfl (by decide) (q_fieldAddr foff51_1 rfl) ?_
  obtain ⟨x3, hx4, h⟩ := h
  refine GoOps.q (v := Sl.v x3) rfl rfl (by decide) (q_load scalar49 rfl hx4) ?_
  refine GoOps.q (v := .int .i64 (x3.len : Int)) rfl rfl (by decide) (q_len Try.underlying49 rfl (ls1 rfl)) ?_
  refine GoOps.q (v := .int .i64 0) rfl rfl (by decide) (q_move rfl) ?_
  refine GoOps.nil ?_
  refine Go.block ?_
  refine loop_go (fun ρ (s5 : Int) => ρ 0 = .pointer p0 ∧ ρ 1 = .int .i64 p1 ∧ ρ 9 = Sl.v x3 ∧ ρ 10 = .int .i64 (x3.len : Int) ∧ ρ 11 = .int .i64 s5) h ⟨rfl, rfl, rfl, rfl, rfl⟩ ?_
  clear h
  intro ρ s5 H8 again6 hE h hagain6
  obtain ⟨e7_0, e7_1, e7_9, e7_10, e7_11⟩ := hE
  refine Go.seq ?_
  refine Go.region rfl ?_
  refine GoOps.q (v := .bool (decide (s5 < (x3.len : Int)))) rfl rfl (by decide) (q_lss e7_11 e7_10) ?_
  refine GoOps.nil ?_
  refine Go.seq ?_
  rcases bor (decide (s5 < (x3.len : Int))) with hc9 | hc9
  · have h := h.1 hc9
    refine Go.condT (btT rfl hc9) ?_
    refine Go.skip ?_
    refine Go.seq ?_
    refine join_go 1 (fun ρ (s10 : Unit) => ρ 0 = .pointer p0 ∧ ρ 1 = .int .i64 p1 ∧ ρ 9 = Sl.v x3 ∧ ρ 10 = .int .i64 (x3.len : Int) ∧ ρ 11 = .int .i64 s5) h ?_ ?_ <;> clear h
    · intro s10 H12 ρ h hE
      obtain ⟨e13_0, e13_1, e13_9, e13_10, e13_11⟩ := hE
      refine Go.region rfl ?_
      refine GoOps.q (v := .int .i64 (IntKind.wrap .i64 (s5 + 1))) rfl rfl (by decide) (q_add e13_11 rfl) ?_
      refine GoOps.q (v := .int .i64 (IntKind.wrap .i64 (s5 + 1))) rfl rfl (by decide) (q_move rfl) ?_
      refine GoOps.nil ?_
      exact hagain6 _ _ _ h ⟨e13_0, e13_1, e13_9, e13_10, rfl⟩
    · intro j11 hj11 h
      refine Go.block ?_
      refine Go.seq ?_
      refine Go.region rfl ?_
      refine GoOps.q (v := .int .i64 s5) rfl rfl (by decide) (q_move e7_11) ?_
      obtain ⟨a14, ha15, h⟩ := h
      refine GoOps.q (v := .pointer (some a14)) rfl rfl (by decide) (q_idx slice49 ha15 e7_9 e7_11) ?_
      obtain ⟨x16, hx17, h⟩ := h
      refine GoOps.q (v := Sl.v x16) rfl rfl (by decide) (q_load scalar52 rfl hx17) ?_
      refine GoOps.q (v := .int .i64 s5) rfl rfl (by decide) (q_assign rfl) ?_
      refine GoOps.q (v := Sl.v x16) rfl rfl (by decide) (q_assign rfl) ?_
      refine GoOps.nil ?_
      refine Go.seq ?_
      refine Go.region rfl ?_
      refine GoOps.q (v := Sl.v x16) rfl rfl (by decide) (q_move rfl) ?_
      refine GoOps.q (v := .bool (!(Option.isNone x16.a))) rfl rfl (by decide) (q_neqSn Try.underlying52 rfl rfl) ?_
      refine GoOps.nil ?_
      rcases bor (!(Option.isNone x16.a)) with hc18 | hc18
      · have h := h.1 hc18
        refine Go.condT (btT rfl hc18) ?_
        refine Go.draw mixed ?_
        refine plan_pure (i := 0) (d := 18) (S2 := 1) (v := .pointer p0) rfl (by decide +kernel) rfl (q_move e7_0) ?_
        obtain ⟨a19, ha20, h⟩ := h
        refine plan_pure (i := 1) (d := 19) (S2 := 3) (v := .pointer (some a19)) rfl (by decide +kernel) rfl (q_nilCheck (ptn rfl ha20)) ?_
        refine plan_pure (i := 2) (d := 20) (S2 := 7) (v := .pointer (some (a19.add 0))) rfl (by decide +kernel) rfl (q_fieldAddr foff51_0 rfl) ?_
        obtain ⟨x21, hx22, h⟩ := h
        refine plan_load (i := 3) (d := 21) (S2 := 15) (v := Sl.v x21) rfl (by decide +kernel) rfl (q_load scalar49 rfl hx22) ?_
        refine plan_pure (i := 4) (d := 22) (S2 := 31) (v := .int .i64 s5) rfl (by decide +kernel) rfl (q_move rfl) ?_
        refine plan_pure (i := 5) (d := 23) (S2 := 63) (v := .pointer p0) rfl (by decide +kernel) rfl (q_move e7_0) ?_
        obtain ⟨a23, ha24, h⟩ := h
        refine plan_pure (i := 6) (d := 24) (S2 := 127) (v := .pointer (some a23)) rfl (by decide +kernel) rfl (q_nilCheck (ptn rfl ha24)) ?_
        refine plan_pure (i := 7) (d := 25) (S2 := 255) (v := .pointer (some (a23.add 1))) rfl (by decide +kernel) rfl (q_fieldAddr foff51_1 rfl) ?_
        obtain ⟨x25, hx26, h⟩ := h
        refine plan_load (i := 8) (d := 26) (S2 := 511) (v := Sl.v x25) rfl (by decide +kernel) rfl (q_load scalar49 rfl hx26) ?_
        refine plan_pure (i := 9) (d := 27) (S2 := 1023) (v := .int .i64 s5) rfl (by decide +kernel) rfl (q_move rfl) ?_
        refine plan_pure (i := 10) (d := 28) (S2 := 2047) (v := Sl.v x16) rfl (by decide +kernel) rfl (q_move rfl) ?_
        obtain ⟨a27, ha28, h⟩ := h
        refine plan_pure (i := 11) (d := 29) (S2 := 4095) (v := .pointer (some a27)) rfl (by decide +kernel) rfl (q_idx slice49 ha28 rfl rfl) ?_
        refine plan_one (j := 12) (S2 := 8191) (by decide +kernel) rfl (by decide) rfl ?_
        obtain ⟨q30b, q30o, q30c, q30e, hq30a, hq30b, hq30l, hq30v, h⟩ := h
        refine do_store (vs := [Sl.v x16]) size52 (pta rfl hq30a) rfl rfl rfl hq30v hq30b hq30l ?_
        refine ⟨_, (.inl ⟨⟨[12], by decide +kernel, rfl⟩, .inl ⟨⟨[12], by decide +kernel, rfl⟩, rfl⟩⟩), ?_⟩
        obtain ⟨a31, ha32, h⟩ := h
        refine plan_pure (i := 13) (d := 30) (S2 := 16383) (v := .pointer (some a31)) rfl (by decide +kernel) rfl (q_idx slice49 ha32 rfl rfl) ?_
        refine plan_one (j := 14) (S2 := 32767) (by decide +kernel) rfl (by decide) rfl ?_
        obtain ⟨q34b, q34o, q34c, q34e, hq34a, hq34b, hq34l, hq34v, h⟩ := h
        refine do_store (vs := [Sl.v Sl.nil]) size52 (pta rfl hq34a) rfl rfl rfl hq34v hq34b hq34l ?_
        refine ⟨_, rfl, ?_⟩
        refine plan_done (by decide +kernel) ?_
        refine Go.inBlock ?_
        exact hj11 _ _ _ h ⟨e7_0, e7_1, e7_9, e7_10, e7_11⟩
      · have h := h.2 hc18
        refine Go.condF (btF rfl hc18) ?_
        refine Go.skip ?_
        refine Go.inBlock ?_
        exact hj11 _ _ _ h ⟨e7_0, e7_1, e7_9, e7_10, e7_11⟩
  · have h := h.2 hc9
    refine Go.condF (btF rfl hc9) ?_
    refine Go.exit rfl ?_
    refine Go.seq ?_
    refine Go.region rfl ?_
    refine GoOps.q (v := .pointer p0) rfl rfl (by decide) (q_move e7_0) ?_
    refine GoOps.q (v := .pointer p0) rfl rfl (by decide) (q_move e7_0) ?_
    refine GoOps.q (v := .int .i64 p1) rfl rfl (by decide) (q_move e7_1) ?_
    refine GoOps.q (v := .pointer p0) rfl rfl (by decide) (q_move e7_0) ?_
    obtain ⟨a35, ha36, h⟩ := h
    refine GoOps.q (v := .pointer (some a35)) rfl rfl (by decide) (q_nilCheck (ptn rfl ha36)) ?_
    refine GoOps.q (v := .pointer (some (a35.add 3))) rfl rfl (by decide) (q_fieldAddr foff51_3 rfl) ?_
    obtain ⟨x37, hx38, h⟩ := h
    refine GoOps.q (v := .int .i64 x37) rfl rfl (by decide) (q_load scalar3 rfl hx38) ?_
    refine GoOps.q (v := .int .i64 (IntKind.wrap .i64 (x37 + 1))) rfl rfl (by decide) (q_add rfl rfl) ?_
    obtain ⟨a39, ha40, h⟩ := h
    refine GoOps.q (v := .pointer (some a39)) rfl rfl (by decide) (q_nilCheck (ptn rfl ha40)) ?_
    refine GoOps.q (v := .pointer (some (a39.add 2))) rfl rfl (by decide) (q_fieldAddr foff51_2 rfl) ?_
    obtain ⟨q42b, q42o, q42c, q42e, hq42a, hq42b, hq42l, hq42v, h⟩ := h
    refine op_none rfl rfl (do_store (vs := [.int .i64 p1]) size3 (pta rfl hq42a) rfl rfl rfl hq42v hq42b hq42l ?_) 
    obtain ⟨a43, ha44, h⟩ := h
    refine GoOps.q (v := .pointer (some a43)) rfl rfl (by decide) (q_nilCheck (ptn rfl ha44)) ?_
    refine GoOps.q (v := .pointer (some (a43.add 3))) rfl rfl (by decide) (q_fieldAddr foff51_3 rfl) ?_
    obtain ⟨q46b, q46o, q46c, q46e, hq46a, hq46b, hq46l, hq46v, h⟩ := h
    refine op_none rfl rfl (do_store (vs := [.int .i64 (IntKind.wrap .i64 (x37 + 1))]) size3 (pta rfl hq46a) rfl rfl rfl hq46v hq46b hq46l ?_) 
    refine GoOps.nil ?_
    refine Go.region rfl ?_
    refine GoOps.q (v := .pointer p0) rfl rfl (by decide) (q_move e7_0) ?_
    refine GoOps.q (v := .pointer p0) rfl rfl (by decide) (q_move e7_0) ?_
    obtain ⟨a47, ha48, h⟩ := h
    refine GoOps.q (v := .pointer (some a47)) rfl rfl (by decide) (q_nilCheck (ptn rfl ha48)) ?_
    refine GoOps.q (v := .pointer (some (a47.add 3))) rfl rfl (by decide) (q_fieldAddr foff51_3 rfl) ?_
    obtain ⟨x49, hx50, h⟩ := h
    refine GoOps.q (v := .int .i64 x49) rfl rfl (by decide) (q_load scalar3 rfl hx50) ?_
    obtain ⟨a51, ha52, h⟩ := h
    refine GoOps.q (v := .pointer (some a51)) rfl rfl (by decide) (q_nilCheck (ptn rfl ha52)) ?_
    refine GoOps.q (v := .pointer (some (a51.add 4))) rfl rfl (by decide) (q_fieldAddr foff51_4 rfl) ?_
    obtain ⟨q54b, q54o, q54c, q54e, hq54a, hq54b, hq54l, hq54v, h⟩ := h
    refine op_none rfl rfl (do_store (vs := [.int .i64 x49]) size3 (pta rfl hq54a) rfl rfl rfl hq54v hq54b hq54l ?_) 
    refine GoOps.nil ?_
    exact Go.fall ⟨.inr rfl, _, _, DOk.nil, (resOk0 Try.results29), ⟨rfl, h⟩⟩

/-- slices.Clone[[]byte,byte] -/
def slices_Clone_Slbyte_byte (p0 : Sl) (H : PH) (Q : Sl → PH → Prop) : Prop :=
  mIf (Option.isNone p0.a)
  (Q Sl.nil H)
  (mNewS H (row [] 5) 0 fun r2 H3 =>
  mApp H3 5 1 1 [.int .u8 0] r2 p0 fun r5 H6 =>
  Q r5 H6)

set_option maxRecDepth 20000 in
set_option maxHeartbeats 1000000 in
theorem slices_Clone_Slbyte_byte_s (p0 : Sl) (H : PH) (Q : Sl → PH → Prop) (h : slices_Clone_Slbyte_byte p0 H Q) :
    CallsH Try.prog 30 #[Sl.v p0] H (fun v H' => ∃ (r0 : Sl), v = Sl.v r0 ∧ Q r0 H') := by
  unfold slices_Clone_Slbyte_byte at h
  refine callsH_of_go Try.func30 rfl Try.ntmps30 (Nat.le_of_ble_eq_true rfl) ?_
  refine Go.seq ?_
  refine Go.region rfl ?_
  refine GoOps.q (v := Sl.v Sl.nil) rfl rfl (by decide) (q_assign rfl) ?_
  refine GoOps.nil ?_
  refine Go.seq ?_
  refine Go.seq ?_
  refine Go.region rfl ?_
  refine GoOps.q (v := Sl.v p0) rfl rfl (by decide) (q_move rfl) ?_
  refine GoOps.q (v := .bool (Option.isNone p0.a)) rfl rfl (by decide) (q_eqlSn Try.underlying27 rfl rfl) ?_
  refine GoOps.nil ?_
  rcases bor (Option.isNone p0.a) with hc1 | hc1
  · have h := h.1 hc1
    refine Go.condT (btT rfl hc1) ?_
    refine Go.seq ?_
    refine Go.region rfl ?_
    refine GoOps.q (v := Sl.v Sl.nil) rfl rfl (by decide) (q_assign rfl) ?_
    refine GoOps.nil ?_
    exact Go.ret ⟨.inl rfl, _, _, DOk.nil, (resOk1 Try.results30 rfl), ⟨_, rfl, h⟩⟩
  · have h := h.2 hc1
    refine Go.condF (btF rfl hc1) ?_
    refine Go.skip ?_
    refine Go.seq ?_
    refine Go.region rfl ?_
    refine op_dst rfl rfl (by decide) (do_bs0 slice27 fun r2 H3 hb4 => ?_) 
    have h := h r2 H3 hb4
    refine GoOps.q (v := Sl.v p0) rfl rfl (by decide) (q_move rfl) ?_
    refine op_dst rfl rfl (by decide) (do_append (zs := [.int .u8 0]) slice27 bytes5 (by decide) zero5 rfl rfl (by decide) rfl rfl Try.underlying27 rfl h fun r5 H6 h => ?_) 
    refine GoOps.q (v := Sl.v r5) rfl rfl (by decide) (q_assign rfl) ?_
    refine GoOps.nil ?_
    exact Go.ret ⟨.inl rfl, _, _, DOk.nil, (resOk1 Try.results30 rfl), ⟨_, rfl, h⟩⟩

/-- (*keelson.ideal.Ideal).blocks -/
def ideal_Ideal_blocks (p0 : Option Addr) (p1 : (Int × Int × Int × Int × Sl)) (H : PH) (Q : Int → PH → Prop) : Prop :=
  mNew H (row [.int .i64 p1.1, .int .i64 p1.2.1, .int .i64 p1.2.2.1, .int .i64 p1.2.2.2.1, Sl.v p1.2.2.2.2] 29) fun a1 H2 =>
  mLd (.int .i64) H2 (a1.add 0) fun x4 =>
  mJoin (fun (s7 : Bool) (H9 : PH) =>
  mIf s7
  (Q 1 H9)
  (mLd (.int .i64) H9 (a1.add 2) fun x12 =>
  Q x12 H9))
  fun j8 =>
  mIf (x4 == 1)
  (j8 true H2)
  (mLd (.int .i64) H2 (a1.add 0) fun x14 =>
  j8 (x14 == 5) H2)

set_option maxRecDepth 20000 in
set_option maxHeartbeats 1000000 in
theorem ideal_Ideal_blocks_s (p0 : Option Addr) (p1 : (Int × Int × Int × Int × Sl)) (H : PH) (Q : Int → PH → Prop) (h : ideal_Ideal_blocks p0 p1 H Q) :
    CallsH Try.prog 31 #[.pointer p0, .agg ([.int .i64 p1.1, .int .i64 p1.2.1, .int .i64 p1.2.2.1, .int .i64 p1.2.2.2.1, Sl.v p1.2.2.2.2] : List Value).toArray] H (fun v H' => ∃ (r0 : Int), v = .int .i64 r0 ∧ Q r0 H') := by
  unfold ideal_Ideal_blocks at h
  refine callsH_of_go Try.func31 rfl Try.ntmps31 (Nat.le_of_ble_eq_true rfl) ?_
  refine Go.seq ?_
  refine Go.region rfl ?_
  refine op_dst rfl rfl (by decide) (do_newBox (cs := [.int .i64 p1.1, .int .i64 p1.2.1, .int .i64 p1.2.2.1, .int .i64 p1.2.2.2.1, Sl.v p1.2.2.2.2]) rfl rfl fun a1 H2 hb3 => ?_) 
  have h := h a1 H2 hb3
  refine GoOps.q (v := .int .i64 0) rfl rfl (by decide) (q_assign rfl) ?_
  refine GoOps.nil ?_
  refine Go.seq ?_
  refine Go.seq ?_
  refine Go.region rfl ?_
  refine GoOps.q (v := .pointer (some (a1.add 0))) rfl rfl (by decide) (q_fieldAddr foff29_0 rfl) ?_
  obtain ⟨x4, hx5, h⟩ := h
  refine GoOps.q (v := .int .i64 x4) rfl rfl (by decide) (q_load scalar3 rfl hx5) ?_
  refine GoOps.q (v := .bool (x4 == 1)) rfl rfl (by decide) (q_eql rfl rfl) ?_
  refine GoOps.q (v := .bool (x4 == 1)) rfl rfl (by decide) (q_move rfl) ?_
  refine join_ops 4 (fun ρ (s7 : Bool) => ρ 3 = .pointer (some a1) ∧ ρ 12 = .bool s7) h ?_ ?_ <;> clear h
  · intro s7 H9 ρ h hE
    obtain ⟨e10_3, e10_12⟩ := hE
    refine GoOps.nil ?_
    rcases bor s7 with hc11 | hc11
    · have h := h.1 hc11
      refine Go.condT (btT e10_12 hc11) ?_
      refine Go.seq ?_
      refine Go.region rfl ?_
      refine GoOps.q (v := .int .i64 1) rfl rfl (by decide) (q_assign rfl) ?_
      refine GoOps.nil ?_
      exact Go.ret ⟨.inl rfl, _, _, DOk.nil, (resOk1 Try.results31 rfl), ⟨_, rfl, h⟩⟩
    · have h := h.2 hc11
      refine Go.condF (btF e10_12 hc11) ?_
      refine Go.skip ?_
      refine Go.seq ?_
      refine Go.region rfl ?_
      refine GoOps.q (v := .pointer (some (a1.add 2))) rfl rfl (by decide) (q_fieldAddr foff29_2 e10_3) ?_
      obtain ⟨x12, hx13, h⟩ := h
      refine GoOps.q (v := .int .i64 x12) rfl rfl (by decide) (q_load scalar3 rfl hx13) ?_
      refine GoOps.q (v := .int .i64 x12) rfl rfl (by decide) (q_assign rfl) ?_
      refine GoOps.nil ?_
      exact Go.ret ⟨.inl rfl, _, _, DOk.nil, (resOk1 Try.results31 rfl), ⟨_, rfl, h⟩⟩
  · intro j8 hj8 h
    rcases bor (x4 == 1) with hc6 | hc6
    · have h := h.1 hc6
      refine no_dst (want_no rfl rfl rfl hc6) rfl (by decide) ?_
      refine no_dst (want_no rfl rfl rfl hc6) rfl (by decide) ?_
      refine no_dst (want_no rfl rfl rfl hc6) rfl (by decide) ?_
      refine GoOps.q (v := .bool true) rfl rfl (by decide) (q_pickT (btT rfl hc6) rfl) ?_
      exact hj8 true _ _ h (by exact ⟨rfl, rfl⟩)
    · have h := h.2 hc6
      refine GoOps.q (v := .pointer (some (a1.add 0))) (want_yes rfl rfl rfl hc6) rfl (by decide) (q_fieldAddr foff29_0 rfl) ?_
      obtain ⟨x14, hx15, h⟩ := h
      refine GoOps.q (v := .int .i64 x14) (want_yes rfl rfl rfl hc6) rfl (by decide) (q_load scalar3 rfl hx15) ?_
      refine GoOps.q (v := .bool (x14 == 5)) (want_yes rfl rfl rfl hc6) rfl (by decide) (q_eql rfl rfl) ?_
      refine GoOps.q (v := .bool (x14 == 5)) rfl rfl (by decide) (q_pickF (btF rfl hc6) rfl) ?_
      exact hj8 (x14 == 5) _ _ h (by exact ⟨rfl, rfl⟩)

/-- (*keelson.ideal.Ideal).Do -/
def ideal_Ideal_Do (p0 : Option Addr) (p1 : (Int × Int × Int × Int × Sl)) (H : PH) (Q : Bool → PH → Prop) : Prop :=
  mNew H (row [.int .i64 p1.1, .int .i64 p1.2.1, .int .i64 p1.2.2.1, .int .i64 p1.2.2.2.1, Sl.v p1.2.2.2.2] 29) fun a1 H2 =>
  mLdR (fun (x : (Int × Int × Int × Int × Sl)) => [.int .i64 x.1, .int .i64 x.2.1, .int .i64 x.2.2.1, .int .i64 x.2.2.2.1, Sl.v x.2.2.2.2]) H2 a1 5 fun x4 =>
  ideal_Ideal_may p0 (x4.1, x4.2.1, x4.2.2.1, x4.2.2.2.1, x4.2.2.2.2) H2 fun y7 H6 =>
  mIf (!y7)
  (Q false H6)
  (mNil p0 fun a9 =>
  mLd Sl.v H6 (a9.add 0) fun x11 =>
  mLd (.int .i64) H6 (a1.add 0) fun x13 =>
  mJoin (fun (s15 : Sl) (H17 : PH) =>
  mLd Sl.v H17 (a1.add 4) fun x19 =>
  slices_Clone_Slbyte_byte x19 H17 fun y22 H21 =>
  mJoin (fun (s23 : Sl) (H25 : PH) =>
  mLdR (fun (x : (Int × Int × Int × Int × Sl)) => [.int .i64 x.1, .int .i64 x.2.1, .int .i64 x.2.2.1, .int .i64 x.2.2.2.1, Sl.v x.2.2.2.2]) H25 a1 5 fun x27 =>
  ideal_Ideal_blocks p0 (x27.1, x27.2.1, x27.2.2.1, x27.2.2.2.1, x27.2.2.2.2) H25 fun y30 H29 =>
  mLoop (fun (s31 : Int) (H34 : PH) (again32 : Int → PH → Prop) =>
  mIf (decide (s31 < y30))
  (mLd (.int .i64) H34 (a1.add 1) fun x36 =>
  mIdx s15 1 (IntKind.wrap .i64 (x36 + s31)) fun a38 =>
  mSt H34 a38 ([Sl.v s23]) fun H40 =>
  again32 (IntKind.wrap .i64 (s31 + 1)) H40)
  (Q true H34))
  0 H29)
  fun j24 =>
  mIf ((y22.len : Int) == 0)
  (mMk H21 5 1 [.int .u8 0] 64 64 fun r43 H44 =>
  j24 r43 H44)
  (j24 y22 H21))
  fun j16 =>
  mIf (x13 == 3)
  (mLd (.int .i64) H6 (a1.add 3) fun x48 =>
  ideal_Ideal_mark p0 x48 H6 fun H50 =>
  j16 x11 H50)
  (mJoin (fun (s51 : Bool) (H53 : PH) =>
  mIf s51
  (mNil p0 fun a56 =>
  mLd Sl.v H53 (a56.add 1) fun x58 =>
  mNil p0 fun a60 =>
  mLd (.int .i64) H53 (a60.add 3) fun x62 =>
  mNil p0 fun a64 =>
  mSt H53 (a64.add 3) ([.int .i64 (IntKind.wrap .i64 (x62 + 1))]) fun H66 =>
  j16 x58 H66)
  (j16 x11 H53))
  fun j52 =>
  mIf (x13 == 1)
  (j52 (x13 == 1) H6)
  (j52 (x13 == 2) H6)))

set_option maxRecDepth 20000 in
set_option maxHeartbeats 1000000 in
theorem ideal_Ideal_Do_s (p0 : Option Addr) (p1 : (Int × Int × Int × Int × Sl)) (H : PH) (Q : Bool → PH → Prop) (h : ideal_Ideal_Do p0 p1 H Q) :
    CallsH Try.prog 10 #[.pointer p0, .agg ([.int .i64 p1.1, .int .i64 p1.2.1, .int .i64 p1.2.2.1, .int .i64 p1.2.2.2.1, Sl.v p1.2.2.2.2] : List Value).toArray] H (fun v H' => ∃ (r0 : Bool), v = .bool r0 ∧ Q r0 H') := by
  unfold ideal_Ideal_Do at h
  refine callsH_of_go Try.func10 rfl Try.ntmps10 (Nat.le_of_ble_eq_true rfl) ?_
  refine Go.seq ?_
  refine Go.region rfl ?_
  refine op_dst rfl rfl (by decide) (do_newBox (cs := [.int .i64 p1.1, .int .i64 p1.2.1, .int .i64 p1.2.2.1, .int .i64 p1.2.2.2.1, Sl.v p1.2.2.2.2]) rfl rfl fun a1 H2 hb3 => ?_) 
  have h := h a1 H2 hb3
  refine GoOps.q (v := .bool false) rfl rfl (by decide) (q_assign rfl) ?_
  refine GoOps.nil ?_
  refine Go.seq ?_
  refine Go.seq ?_
  refine Go.region rfl ?_
  refine GoOps.q (v := .pointer p0) rfl rfl (by decide) (q_move rfl) ?_
  obtain ⟨x4, hx5, h⟩ := h
  refine GoOps.q (v := .agg ([.int .i64 x4.1, .int .i64 x4.2.1, .int .i64 x4.2.2.1, .int .i64 x4.2.2.2.1, Sl.v x4.2.2.2.2] : List Value).toArray) rfl rfl (by decide) (q_loadA aggr29 rfl hx5) ?_
  refine call_dst rfl (by decide) body28 (ideal_Ideal_may_s _ _ _ _ h) rfl ?_
  rintro _ H6 ⟨y7, rfl, h⟩
  refine GoOps.q (v := .bool (!y7)) rfl rfl (by decide) (q_not rfl) ?_
  refine GoOps.nil ?_
  rcases bor (!y7) with hc8 | hc8
  · have h := h.1 hc8
    refine Go.condT (btT rfl hc8) ?_
    refine Go.seq ?_
    refine Go.region rfl ?_
    refine GoOps.q (v := .bool false) rfl rfl (by decide) (q_assign rfl) ?_
    refine GoOps.nil ?_
    exact Go.ret ⟨.inl rfl, _, _, DOk.nil, (resOk1 Try.results10 rfl), ⟨_, rfl, h⟩⟩
  · have h := h.2 hc8
    refine Go.condF (btF rfl hc8) ?_
    refine Go.skip ?_
    refine Go.seq ?_
    refine Go.region rfl ?_
    refine GoOps.q (v := .pointer p0) rfl rfl (by decide) (q_move rfl) ?_
    obtain ⟨a9, ha10, h⟩ := h
    refine GoOps.q (v := .pointer (some a9)) rfl rfl (by decide) (q_nilCheck (ptn rfl ha10)) ?_
    refine GoOps.q (v := .pointer (some (a9.add 0))) rfl rfl (by decide) (q_fieldAddr foff51_0 rfl) ?_
    obtain ⟨x11, hx12, h⟩ := h
    refine GoOps.q (v := Sl.v x11) rfl rfl (by decide) (q_load scalar49 rfl hx12) ?_
    refine GoOps.q (v := Sl.v x11) rfl rfl (by decide) (q_assign rfl) ?_
    refine GoOps.nil ?_
    refine Go.seq ?_
    refine Go.seq ?_
    refine Go.region rfl ?_
    refine GoOps.q (v := .pointer (some (a1.add 0))) rfl rfl (by decide) (q_fieldAddr foff29_0 rfl) ?_
    obtain ⟨x13, hx14, h⟩ := h
    refine GoOps.q (v := .int .i64 x13) rfl rfl (by decide) (q_load scalar3 rfl hx14) ?_
    refine GoOps.nil ?_
    refine join_go 1 (fun ρ (s15 : Sl) => ρ 0 = .pointer p0 ∧ ρ 3 = .pointer (some a1) ∧ ρ 5 = Sl.v s15) h ?_ ?_ <;> clear h
    · intro s15 H17 ρ h hE
      obtain ⟨e18_0, e18_3, e18_5⟩ := hE
      refine Go.seq ?_
      refine Go.region rfl ?_
      refine GoOps.q (v := .pointer (some (a1.add 4))) rfl rfl (by decide) (q_fieldAddr foff29_4 e18_3) ?_
      obtain ⟨x19, hx20, h⟩ := h
      refine GoOps.q (v := Sl.v x19) rfl rfl (by decide) (q_load scalar27 rfl hx20) ?_
      refine call_dst rfl (by decide) body30 (slices_Clone_Slbyte_byte_s _ _ _ h) rfl ?_
      rintro _ H21 ⟨y22, rfl, h⟩
      refine GoOps.q (v := Sl.v y22) rfl rfl (by decide) (q_assign rfl) ?_
      refine GoOps.nil ?_
      refine Go.seq ?_
      refine Go.seq ?_
      refine Go.region rfl ?_
      refine GoOps.q (v := Sl.v y22) rfl rfl (by decide) (q_move rfl) ?_
      refine GoOps.q (v := .int .i64 (y22.len : Int)) rfl rfl (by decide) (q_len Try.underlying52 rfl (ls1 rfl)) ?_
      refine GoOps.q (v := .bool ((y22.len : Int) == 0)) rfl rfl (by decide) (q_eql rfl rfl) ?_
      refine GoOps.nil ?_
      refine join_go 1 (fun ρ (s23 : Sl) => ρ 0 = .pointer p0 ∧ ρ 3 = .pointer (some a1) ∧ ρ 5 = Sl.v s15 ∧ ρ 6 = Sl.v s23) h ?_ ?_ <;> clear h
      · intro s23 H25 ρ h hE
        obtain ⟨e26_0, e26_3, e26_5, e26_6⟩ := hE
        refine Go.seq ?_
        refine Go.seq ?_
        refine Go.region rfl ?_
        refine GoOps.q (v := .pointer p0) rfl rfl (by decide) (q_move e26_0) ?_
        obtain ⟨x27, hx28, h⟩ := h
        refine GoOps.q (v := .agg ([.int .i64 x27.1, .int .i64 x27.2.1, .int .i64 x27.2.2.1, .int .i64 x27.2.2.2.1, Sl.v x27.2.2.2.2] : List Value).toArray) rfl rfl (by decide) (q_loadA aggr29 e26_3 hx28) ?_
        refine call_dst rfl (by decide) body31 (ideal_Ideal_blocks_s _ _ _ _ h) rfl ?_
        rintro _ H29 ⟨y30, rfl, h⟩
        refine GoOps.q (v := .int .i64 0) rfl rfl (by decide) (q_move rfl) ?_
        refine GoOps.nil ?_
        refine Go.block ?_
        refine loop_go (fun ρ (s31 : Int) => ρ 3 = .pointer (some a1) ∧ ρ 5 = Sl.v s15 ∧ ρ 6 = Sl.v s23 ∧ ρ 47 = .int .i64 y30 ∧ ρ 48 = .int .i64 s31) h ⟨e26_3, e26_5, e26_6, rfl, rfl⟩ ?_
        clear h
        intro ρ s31 H34 again32 hE h hagain32
        obtain ⟨e33_3, e33_5, e33_6, e33_47, e33_48⟩ := hE
        refine Go.seq ?_
        refine Go.region rfl ?_
        refine GoOps.q (v := .bool (decide (s31 < y30))) rfl rfl (by decide) (q_lss e33_48 e33_47) ?_
        refine GoOps.nil ?_
        refine Go.seq ?_
        rcases bor (decide (s31 < y30)) with hc35 | hc35
        · have h := h.1 hc35
          refine Go.condT (btT rfl hc35) ?_
          refine Go.skip ?_
          refine Go.seq ?_
          refine Go.block ?_
          refine Go.seq ?_
          refine Go.region rfl ?_
          refine GoOps.q (v := .int .i64 s31) rfl rfl (by decide) (q_move e33_48) ?_
          refine GoOps.q (v := .int .i64 s31) rfl rfl (by decide) (q_assign rfl) ?_
          refine GoOps.nil ?_
          refine Go.region rfl ?_
          refine GoOps.q (v := Sl.v s15) rfl rfl (by decide) (q_move e33_5) ?_
          refine GoOps.q (v := .pointer (some (a1.add 1))) rfl rfl (by decide) (q_fieldAddr foff29_1 e33_3) ?_
          obtain ⟨x36, hx37, h⟩ := h
          refine GoOps.q (v := .int .i64 x36) rfl rfl (by decide) (q_load scalar3 rfl hx37) ?_
          refine GoOps.q (v := .int .i64 s31) rfl rfl (by decide) (q_move rfl) ?_
          refine GoOps.q (v := .int .i64 (IntKind.wrap .i64 (x36 + s31))) rfl rfl (by decide) (q_add rfl rfl) ?_
          refine GoOps.q (v := Sl.v s23) rfl rfl (by decide) (q_move e33_6) ?_
          obtain ⟨a38, ha39, h⟩ := h
          refine GoOps.q (v := .pointer (some a38)) rfl rfl (by decide) (q_idx slice49 ha39 rfl rfl) ?_
          obtain ⟨q41b, q41o, q41c, q41e, hq41a, hq41b, hq41l, hq41v, h⟩ := h
          refine op_none rfl rfl (do_store (vs := [Sl.v s23]) size52 (pta rfl hq41a) rfl rfl rfl hq41v hq41b hq41l ?_) 
          refine GoOps.nil ?_
          refine Go.inBlock ?_
          refine Go.region rfl ?_
          refine GoOps.q (v := .int .i64 (IntKind.wrap .i64 (s31 + 1))) rfl rfl (by decide) (q_add e33_48 rfl) ?_
          refine GoOps.q (v := .int .i64 (IntKind.wrap .i64 (s31 + 1))) rfl rfl (by decide) (q_move rfl) ?_
          refine GoOps.nil ?_
          exact hagain32 _ _ _ h ⟨e33_3, e33_5, e33_6, e33_47, rfl⟩
        · have h := h.2 hc35
          refine Go.condF (btF rfl hc35) ?_
          refine Go.exit rfl ?_
          refine Go.seq ?_
          refine Go.region rfl ?_
          refine GoOps.q (v := .bool true) rfl rfl (by decide) (q_assign rfl) ?_
          refine GoOps.nil ?_
          exact Go.ret ⟨.inl rfl, _, _, DOk.nil, (resOk1 Try.results10 rfl), ⟨_, rfl, h⟩⟩
      · intro j24 hj24 h
        rcases bor ((y22.len : Int) == 0) with hc42 | hc42
        · have h := h.1 hc42
          refine Go.condT (btT rfl hc42) ?_
          refine Go.region rfl ?_
          obtain ⟨hm46, h⟩ := h
          refine op_dst rfl rfl (by decide) (do_mk (zs := [.int .u8 0]) slice52 bytes5 (by decide) zero5 rfl rfl (by decide) rfl rfl hm46 fun r43 H44 hb45 => ?_) 
          have h := h r43 H44 hb45
          refine GoOps.q (v := Sl.v r43) rfl rfl (by decide) (q_assign rfl) ?_
          refine GoOps.nil ?_
          exact hj24 _ _ _ h ⟨e18_0, e18_3, e18_5, rfl⟩
        · have h := h.2 hc42
          refine Go.condF (btF rfl hc42) ?_
          refine Go.skip ?_
          exact hj24 _ _ _ h ⟨e18_0, e18_3, e18_5, rfl⟩
    · intro j16 hj16 h
      refine Go.block ?_
      refine Go.seq ?_
      refine Go.region rfl ?_
      refine GoOps.q (v := .bool (x13 == 3)) rfl rfl (by decide) (q_eql rfl rfl) ?_
      refine GoOps.q (v := .bool (x13 == 3)) rfl rfl (by decide) (q_assign rfl) ?_
      refine GoOps.nil ?_
      rcases bor (x13 == 3) with hc47 | hc47
      · have h := h.1 hc47
        refine Go.condT (btT rfl hc47) ?_
        refine Go.region rfl ?_
        refine GoOps.q (v := .pointer p0) rfl rfl (by decide) (q_move rfl) ?_
        refine GoOps.q (v := .pointer (some (a1.add 3))) rfl rfl (by decide) (q_fieldAddr foff29_3 rfl) ?_
        obtain ⟨x48, hx49, h⟩ := h
        refine GoOps.q (v := .int .i64 x48) rfl rfl (by decide) (q_load scalar3 rfl hx49) ?_
        refine call_dst rfl (by decide) body29 (ideal_Ideal_mark_s _ _ _ _ h) rfl ?_
        rintro _ H50 ⟨rfl, h⟩
        refine GoOps.nil ?_
        refine Go.inBlock ?_
        exact hj16 _ _ _ h ⟨rfl, rfl, rfl⟩
      · have h := h.2 hc47
        refine Go.condF (btF rfl hc47) ?_
        refine Go.seq ?_
        refine Go.seq ?_
        refine Go.region rfl ?_
        refine GoOps.q (v := .bool (x13 == 1)) rfl rfl (by decide) (q_eql rfl rfl) ?_
        refine GoOps.q (v := .bool (x13 == 1)) rfl rfl (by decide) (q_assign rfl) ?_
        refine GoOps.nil ?_
        refine join_go 1 (fun ρ (s51 : Bool) => ρ 0 = .pointer p0 ∧ ρ 3 = .pointer (some a1) ∧ ρ 5 = Sl.v x11 ∧ ρ 24 = .bool s51) h ?_ ?_ <;> clear h
        · intro s51 H53 ρ h hE
          obtain ⟨e54_0, e54_3, e54_5, e54_24⟩ := hE
          rcases bor s51 with hc55 | hc55
          · have h := h.1 hc55
            refine Go.condT (btT e54_24 hc55) ?_
            refine Go.seq ?_
            refine Go.region rfl ?_
            refine GoOps.q (v := .pointer p0) rfl rfl (by decide) (q_move e54_0) ?_
            obtain ⟨a56, ha57, h⟩ := h
            refine GoOps.q (v := .pointer (some a56)) rfl rfl (by decide) (q_nilCheck (ptn rfl ha57)) ?_
            refine GoOps.q (v := .pointer (some (a56.add 1))) rfl rfl (by decide) (q_fieldAddr foff51_1 rfl) ?_
            obtain ⟨x58, hx59, h⟩ := h
            refine GoOps.q (v := Sl.v x58) rfl rfl (by decide) (q_load scalar49 rfl hx59) ?_
            refine GoOps.q (v := Sl.v x58) rfl rfl (by decide) (q_assign rfl) ?_
            refine GoOps.nil ?_
            refine Go.region rfl ?_
            refine GoOps.q (v := .pointer p0) rfl rfl (by decide) (q_move e54_0) ?_
            obtain ⟨a60, ha61, h⟩ := h
            refine GoOps.q (v := .pointer (some a60)) rfl rfl (by decide) (q_nilCheck (ptn rfl ha61)) ?_
            refine GoOps.q (v := .pointer (some (a60.add 3))) rfl rfl (by decide) (q_fieldAddr foff51_3 rfl) ?_
            obtain ⟨x62, hx63, h⟩ := h
            refine GoOps.q (v := .int .i64 x62) rfl rfl (by decide) (q_load scalar3 rfl hx63) ?_
            refine GoOps.q (v := .int .i64 (IntKind.wrap .i64 (x62 + 1))) rfl rfl (by decide) (q_add rfl rfl) ?_
            obtain ⟨a64, ha65, h⟩ := h
            refine GoOps.q (v := .pointer (some a64)) rfl rfl (by decide) (q_nilCheck (ptn rfl ha65)) ?_
            refine GoOps.q (v := .pointer (some (a64.add 3))) rfl rfl (by decide) (q_fieldAddr foff51_3 rfl) ?_
            obtain ⟨q67b, q67o, q67c, q67e, hq67a, hq67b, hq67l, hq67v, h⟩ := h
            refine op_none rfl rfl (do_store (vs := [.int .i64 (IntKind.wrap .i64 (x62 + 1))]) size3 (pta rfl hq67a) rfl rfl rfl hq67v hq67b hq67l ?_) 
            refine GoOps.nil ?_
            refine Go.inBlock ?_
            exact hj16 _ _ _ h ⟨e54_0, e54_3, rfl⟩
          · have h := h.2 hc55
            refine Go.condF (btF e54_24 hc55) ?_
            refine Go.skip ?_
            refine Go.inBlock ?_
            exact hj16 _ _ _ h ⟨e54_0, e54_3, e54_5⟩
        · intro j52 hj52 h
          rcases bor (x13 == 1) with hc68 | hc68
          · have h := h.1 hc68
            refine Go.condT (btT rfl hc68) ?_
            refine Go.skip ?_
            exact hj52 _ _ _ h ⟨rfl, rfl, rfl, rfl⟩
          · have h := h.2 hc68
            refine Go.condF (btF rfl hc68) ?_
            refine Go.region rfl ?_
            refine GoOps.q (v := .bool (x13 == 2)) rfl rfl (by decide) (q_eql rfl rfl) ?_
            refine GoOps.q (v := .bool (x13 == 2)) rfl rfl (by decide) (q_assign rfl) ?_
            refine GoOps.nil ?_
            exact hj52 _ _ _ h ⟨rfl, rfl, rfl, rfl⟩

/-- slices.Clone[keelson.ideal.block,byte] -/
def slices_Clone_ideal_block_byte (p0 : Sl) (H : PH) (Q : Sl → PH → Prop) : Prop :=
  mIf (Option.isNone p0.a)
  (Q Sl.nil H)
  (mNewS H (row [] 5) 0 fun r2 H3 =>
  mApp H3 5 1 1 [.int .u8 0] r2 p0 fun r5 H6 =>
  Q r5 H6)

set_option maxRecDepth 20000 in
set_option maxHeartbeats 1000000 in
theorem slices_Clone_ideal_block_byte_s (p0 : Sl) (H : PH) (Q : Sl → PH → Prop) (h : slices_Clone_ideal_block_byte p0 H Q) :
    CallsH Try.prog 33 #[Sl.v p0] H (fun v H' => ∃ (r0 : Sl), v = Sl.v r0 ∧ Q r0 H') := by
  unfold slices_Clone_ideal_block_byte at h
  refine callsH_of_go Try.func33 rfl Try.ntmps33 (Nat.le_of_ble_eq_true rfl) ?_
  refine Go.seq ?_
  refine Go.region rfl ?_
  refine GoOps.q (v := Sl.v Sl.nil) rfl rfl (by decide) (q_assign rfl) ?_
  refine GoOps.nil ?_
  refine Go.seq ?_
  refine Go.seq ?_
  refine Go.region rfl ?_
  refine GoOps.q (v := Sl.v p0) rfl rfl (by decide) (q_move rfl) ?_
  refine GoOps.q (v := .bool (Option.isNone p0.a)) rfl rfl (by decide) (q_eqlSn Try.underlying52 rfl rfl) ?_
  refine GoOps.nil ?_
  rcases bor (Option.isNone p0.a) with hc1 | hc1
  · have h := h.1 hc1
    refine Go.condT (btT rfl hc1) ?_
    refine Go.seq ?_
    refine Go.region rfl ?_
    refine GoOps.q (v := Sl.v Sl.nil) rfl rfl (by decide) (q_assign rfl) ?_
    refine GoOps.nil ?_
    exact Go.ret ⟨.inl rfl, _, _, DOk.nil, (resOk1 Try.results33 rfl), ⟨_, rfl, h⟩⟩
  · have h := h.2 hc1
    refine Go.condF (btF rfl hc1) ?_
    refine Go.skip ?_
    refine Go.seq ?_
    refine Go.region rfl ?_
    refine op_dst rfl rfl (by decide) (do_bs0 slice52 fun r2 H3 hb4 => ?_) 
    have h := h r2 H3 hb4
    refine GoOps.q (v := Sl.v p0) rfl rfl (by decide) (q_move rfl) ?_
    refine op_dst rfl rfl (by decide) (do_append (zs := [.int .u8 0]) slice52 bytes5 (by decide) zero5 rfl rfl (by decide) rfl rfl Try.underlying52 rfl h fun r5 H6 h => ?_) 
    refine GoOps.q (v := Sl.v r5) rfl rfl (by decide) (q_assign rfl) ?_
    refine GoOps.nil ?_
    exact Go.ret ⟨.inl rfl, _, _, DOk.nil, (resOk1 Try.results33 rfl), ⟨_, rfl, h⟩⟩

/-- (*keelson.ideal.Ideal).Read -/
def ideal_Ideal_Read (p0 : Option Addr) (p1 : Int) (H : PH) (Q : Sl → PH → Prop) : Prop :=
  ideal_Ideal_has p0 p1 1 H fun y2 H1 =>
  mIf (!y2)
  (Q Sl.nil H1)
  (mNil p0 fun a4 =>
  mLd Sl.v H1 (a4.add 0) fun x6 =>
  mIdx x6 1 p1 fun a8 =>
  mLd Sl.v H1 a8 fun x10 =>
  slices_Clone_ideal_block_byte x10 H1 fun y13 H12 =>
  Q y13 H12)

set_option maxRecDepth 20000 in
set_option maxHeartbeats 1000000 in
theorem ideal_Ideal_Read_s (p0 : Option Addr) (p1 : Int) (H : PH) (Q : Sl → PH → Prop) (h : ideal_Ideal_Read p0 p1 H Q) :
    CallsH Try.prog 13 #[.pointer p0, .int .i64 p1] H (fun v H' => ∃ (r0 : Sl), v = Sl.v r0 ∧ Q r0 H') := by
  unfold ideal_Ideal_Read at h
  refine callsH_of_go Try.func13 rfl Try.ntmps13 (Nat.le_of_ble_eq_true rfl) ?_
  refine Go.seq ?_
  refine Go.region rfl ?_
  refine GoOps.q (v := Sl.v Sl.nil) rfl rfl (by decide) (q_assign rfl) ?_
  refine GoOps.nil ?_
  refine Go.seq ?_
  refine Go.seq ?_
  refine Go.region rfl ?_
  refine GoOps.q (v := .pointer p0) rfl rfl (by decide) (q_move rfl) ?_
  refine GoOps.q (v := .int .i64 p1) rfl rfl (by decide) (q_move rfl) ?_
  refine call_dst rfl (by decide) body32 (ideal_Ideal_has_s _ _ _ _ _ h) rfl ?_
  rintro _ H1 ⟨y2, rfl, h⟩
  refine GoOps.q (v := .bool (!y2)) rfl rfl (by decide) (q_not rfl) ?_
  refine GoOps.nil ?_
  rcases bor (!y2) with hc3 | hc3
  · have h := h.1 hc3
    refine Go.condT (btT rfl hc3) ?_
    refine Go.seq ?_
    refine Go.region rfl ?_
    refine GoOps.q (v := Sl.v Sl.nil) rfl rfl (by decide) (q_assign rfl) ?_
    refine GoOps.nil ?_
    exact Go.ret ⟨.inl rfl, _, _, DOk.nil, (resOk1 Try.results13 rfl), ⟨_, rfl, h⟩⟩
  · have h := h.2 hc3
    refine Go.condF (btF rfl hc3) ?_
    refine Go.skip ?_
    refine Go.seq ?_
    refine Go.region rfl ?_
    refine GoOps.q (v := .pointer p0) rfl rfl (by decide) (q_move rfl) ?_
    obtain ⟨a4, ha5, h⟩ := h
    refine GoOps.q (v := .pointer (some a4)) rfl rfl (by decide) (q_nilCheck (ptn rfl ha5)) ?_
    refine GoOps.q (v := .pointer (some (a4.add 0))) rfl rfl (by decide) (q_fieldAddr foff51_0 rfl) ?_
    obtain ⟨x6, hx7, h⟩ := h
    refine GoOps.q (v := Sl.v x6) rfl rfl (by decide) (q_load scalar49 rfl hx7) ?_
    refine GoOps.q (v := .int .i64 p1) rfl rfl (by decide) (q_move rfl) ?_
    obtain ⟨a8, ha9, h⟩ := h
    refine GoOps.q (v := .pointer (some a8)) rfl rfl (by decide) (q_idx slice49 ha9 rfl rfl) ?_
    obtain ⟨x10, hx11, h⟩ := h
    refine GoOps.q (v := Sl.v x10) rfl rfl (by decide) (q_load scalar52 rfl hx11) ?_
    refine call_dst rfl (by decide) body33 (slices_Clone_ideal_block_byte_s _ _ _ h) rfl ?_
    rintro _ H12 ⟨y13, rfl, h⟩
    refine GoOps.q (v := Sl.v y13) rfl rfl (by decide) (q_assign rfl) ?_
    refine GoOps.nil ?_
    exact Go.ret ⟨.inl rfl, _, _, DOk.nil, (resOk1 Try.results13 rfl), ⟨_, rfl, h⟩⟩

/-- keelson.keelsonref1.Equal -/
def keelsonref1_Equal (p0 : Sl) (p1 : Sl) (H : PH) (Q : Bool → PH → Prop) : Prop :=
  mIf ((p0.len : Int) != (p1.len : Int))
  (Q false H)
  (mLoop (fun (s2 : Int) (H5 : PH) (again3 : Int → PH → Prop) =>
  mIf (decide (s2 < (p0.len : Int)))
  (mIdx p0 1 s2 fun a7 =>
  mLd (.int .u8) H5 a7 fun x9 =>
  mIdx p1 1 s2 fun a11 =>
  mLd (.int .u8) H5 a11 fun x13 =>
  mIf (x9 != x13)
  (Q false H5)
  (again3 (IntKind.wrap .i64 (s2 + 1)) H5))
  (Q true H5))
  0 H)

set_option maxRecDepth 20000 in
set_option maxHeartbeats 1000000 in
theorem keelsonref1_Equal_s (p0 : Sl) (p1 : Sl) (H : PH) (Q : Bool → PH → Prop) (h : keelsonref1_Equal p0 p1 H Q) :
    CallsH Try.prog 34 #[Sl.v p0, Sl.v p1] H (fun v H' => ∃ (r0 : Bool), v = .bool r0 ∧ Q r0 H') := by
  unfold keelsonref1_Equal at h
  refine callsH_of_go Try.func34 rfl Try.ntmps34 (Nat.le_of_ble_eq_true rfl) ?_
  refine Go.seq ?_
  refine Go.region rfl ?_
  refine GoOps.q (v := .bool false) rfl rfl (by decide) (q_assign rfl) ?_
  refine GoOps.nil ?_
  refine Go.seq ?_
  refine Go.seq ?_
  refine Go.region rfl ?_
  refine GoOps.q (v := Sl.v p0) rfl rfl (by decide) (q_move rfl) ?_
  refine GoOps.q (v := .int .i64 (p0.len : Int)) rfl rfl (by decide) (q_len Try.underlying27 rfl (ls1 rfl)) ?_
  refine GoOps.q (v := Sl.v p1) rfl rfl (by decide) (q_move rfl) ?_
  refine GoOps.q (v := .int .i64 (p1.len : Int)) rfl rfl (by decide) (q_len Try.underlying27 rfl (ls1 rfl)) ?_
  refine GoOps.q (v := .bool ((p0.len : Int) != (p1.len : Int))) rfl rfl (by decide) (q_neq rfl rfl) ?_
  refine GoOps.nil ?_
  rcases bor ((p0.len : Int) != (p1.len : Int)) with hc1 | hc1
  · have h := h.1 hc1
    refine Go.condT (btT rfl hc1) ?_
    refine Go.seq ?_
    refine Go.region rfl ?_
    refine GoOps.q (v := .bool false) rfl rfl (by decide) (q_assign rfl) ?_
    refine GoOps.nil ?_
    exact Go.ret ⟨.inl rfl, _, _, DOk.nil, (resOk1 Try.results34 rfl), ⟨_, rfl, h⟩⟩
  · have h := h.2 hc1
    refine Go.condF (btF rfl hc1) ?_
    refine Go.skip ?_
    refine Go.seq ?_
    refine Go.seq ?_
    refine Go.region rfl ?_
    refine GoOps.q (v := .int .i64 0) rfl rfl (by decide) (q_assign rfl) ?_
    refine GoOps.nil ?_
    refine Go.block ?_
    refine loop_go (fun ρ (s2 : Int) => ρ 0 = Sl.v p0 ∧ ρ 1 = Sl.v p1 ∧ ρ 5 = .int .i64 s2) h ⟨rfl, rfl, rfl⟩ ?_
    clear h
    intro ρ s2 H5 again3 hE h hagain3
    obtain ⟨e4_0, e4_1, e4_5⟩ := hE
    refine Go.seq ?_
    refine Go.seq ?_
    refine Go.region rfl ?_
    refine GoOps.q (v := .int .i64 s2) rfl rfl (by decide) (q_move e4_5) ?_
    refine GoOps.q (v := Sl.v p0) rfl rfl (by decide) (q_move e4_0) ?_
    refine GoOps.q (v := .int .i64 (p0.len : Int)) rfl rfl (by decide) (q_len Try.underlying27 rfl (ls1 rfl)) ?_
    refine GoOps.q (v := .bool (decide (s2 < (p0.len : Int)))) rfl rfl (by decide) (q_lss rfl rfl) ?_
    refine GoOps.nil ?_
    rcases bor (decide (s2 < (p0.len : Int))) with hc6 | hc6
    · have h := h.1 hc6
      refine Go.condT (btT rfl hc6) ?_
      refine Go.skip ?_
      refine Go.seq ?_
      refine Go.block ?_
      refine Go.seq ?_
      refine Go.draw mixed ?_
      refine plan_pure (i := 0) (d := 17) (S2 := 1) (v := Sl.v p0) rfl (by decide +kernel) rfl (q_move e4_0) ?_
      refine plan_pure (i := 1) (d := 18) (S2 := 3) (v := .int .i64 s2) rfl (by decide +kernel) rfl (q_move e4_5) ?_
      obtain ⟨a7, ha8, h⟩ := h
      refine plan_pure (i := 2) (d := 19) (S2 := 7) (v := .pointer (some a7)) rfl (by decide +kernel) rfl (q_idx slice27 ha8 rfl rfl) ?_
      obtain ⟨x9, hx10, h⟩ := h
      refine plan_load (i := 3) (d := 20) (S2 := 15) (v := .int .u8 x9) rfl (by decide +kernel) rfl (q_load scalar5 rfl hx10) ?_
      refine plan_pure (i := 4) (d := 21) (S2 := 31) (v := Sl.v p1) rfl (by decide +kernel) rfl (q_move e4_1) ?_
      refine plan_pure (i := 5) (d := 22) (S2 := 63) (v := .int .i64 s2) rfl (by decide +kernel) rfl (q_move e4_5) ?_
      obtain ⟨a11, ha12, h⟩ := h
      refine plan_pure (i := 6) (d := 23) (S2 := 127) (v := .pointer (some a11)) rfl (by decide +kernel) rfl (q_idx slice27 ha12 rfl rfl) ?_
      obtain ⟨x13, hx14, h⟩ := h
      refine plan_load (i := 7) (d := 24) (S2 := 255) (v := .int .u8 x13) rfl (by decide +kernel) rfl (q_load scalar5 rfl hx14) ?_
      refine plan_pure (i := 8) (d := 25) (S2 := 511) (v := .bool (x9 != x13)) rfl (by decide +kernel) rfl (q_neq rfl rfl) ?_
      refine plan_done (by decide +kernel) ?_
      rcases bor (x9 != x13) with hc15 | hc15
      · have h := h.1 hc15
        refine Go.condT (btT rfl hc15) ?_
        refine Go.seq ?_
        refine Go.region rfl ?_
        refine GoOps.q (v := .bool false) rfl rfl (by decide) (q_assign rfl) ?_
        refine GoOps.nil ?_
        exact Go.ret ⟨.inl rfl, _, _, DOk.nil, (resOk1 Try.results34 rfl), ⟨_, rfl, h⟩⟩
      · have h := h.2 hc15
        refine Go.condF (btF rfl hc15) ?_
        refine Go.skip ?_
        refine Go.inBlock ?_
        refine Go.region rfl ?_
        refine GoOps.q (v := .int .i64 s2) rfl rfl (by decide) (q_move e4_5) ?_
        refine GoOps.q (v := .int .i64 (IntKind.wrap .i64 (s2 + 1))) rfl rfl (by decide) (q_add rfl rfl) ?_
        refine GoOps.q (v := .int .i64 (IntKind.wrap .i64 (s2 + 1))) rfl rfl (by decide) (q_assign rfl) ?_
        refine GoOps.nil ?_
        exact hagain3 _ _ _ h ⟨e4_0, e4_1, rfl⟩
    · have h := h.2 hc6
      refine Go.condF (btF rfl hc6) ?_
      refine Go.exit rfl ?_
      refine Go.seq ?_
      refine Go.region rfl ?_
      refine GoOps.q (v := .bool true) rfl rfl (by decide) (q_assign rfl) ?_
      refine GoOps.nil ?_
      exact Go.ret ⟨.inl rfl, _, _, DOk.nil, (resOk1 Try.results34 rfl), ⟨_, rfl, h⟩⟩

/-- keelson.keelsonalike.Bytes -/
def keelsonalike_Bytes (p0 : Sl) (p1 : Sl) (H : PH) (Q : Bool → PH → Prop) : Prop :=
  keelsonref1_Equal p0 p1 H fun y2 H1 =>
  Q y2 H1

set_option maxRecDepth 20000 in
set_option maxHeartbeats 1000000 in
theorem keelsonalike_Bytes_s (p0 : Sl) (p1 : Sl) (H : PH) (Q : Bool → PH → Prop) (h : keelsonalike_Bytes p0 p1 H Q) :
    CallsH Try.prog 12 #[Sl.v p0, Sl.v p1] H (fun v H' => ∃ (r0 : Bool), v = .bool r0 ∧ Q r0 H') := by
  unfold keelsonalike_Bytes at h
  refine callsH_of_go Try.func12 rfl Try.ntmps12 (Nat.le_of_ble_eq_true rfl) ?_
  refine Go.seq ?_
  refine Go.region rfl ?_
  refine GoOps.q (v := .bool false) rfl rfl (by decide) (q_assign rfl) ?_
  refine GoOps.nil ?_
  refine Go.seq ?_
  refine Go.region rfl ?_
  refine GoOps.q (v := Sl.v p0) rfl rfl (by decide) (q_move rfl) ?_
  refine GoOps.q (v := Sl.v p1) rfl rfl (by decide) (q_move rfl) ?_
  refine call_dst rfl (by decide) body34 (keelsonref1_Equal_s _ _ _ _ h) rfl ?_
  rintro _ H1 ⟨y2, rfl, h⟩
  refine GoOps.q (v := .bool y2) rfl rfl (by decide) (q_assign rfl) ?_
  refine GoOps.nil ?_
  exact Go.ret ⟨.inl rfl, _, _, DOk.nil, (resOk1 Try.results12 rfl), ⟨_, rfl, h⟩⟩

/-- (*keelson.ideal.Ideal).Look -/
def ideal_Ideal_Look (p0 : Option Addr) (p1 : Int) (H : PH) (Q : Sl → PH → Prop) : Prop :=
  ideal_Ideal_has p0 p1 1 H fun y2 H1 =>
  mJoin (fun (s4 : Bool) (H6 : PH) =>
  mIf s4
  (mNil p0 fun a9 =>
  mLd Sl.v H6 (a9.add 1) fun x11 =>
  mIdx x11 1 p1 fun a13 =>
  mLd Sl.v H6 a13 fun x15 =>
  slices_Clone_ideal_block_byte x15 H6 fun y18 H17 =>
  Q y18 H17)
  (ideal_Ideal_Read p0 p1 H6 fun y20 H19 =>
  Q y20 H19))
  fun j5 =>
  mIf y2
  (mNil p0 fun a21 =>
  mLd Sl.v H1 (a21.add 1) fun x23 =>
  mIdx x23 1 p1 fun a25 =>
  mLd Sl.v H1 a25 fun x27 =>
  j5 (!(Option.isNone x27.a)) H1)
  (j5 false H1)

set_option maxRecDepth 20000 in
set_option maxHeartbeats 1000000 in
theorem ideal_Ideal_Look_s (p0 : Option Addr) (p1 : Int) (H : PH) (Q : Sl → PH → Prop) (h : ideal_Ideal_Look p0 p1 H Q) :
    CallsH Try.prog 11 #[.pointer p0, .int .i64 p1] H (fun v H' => ∃ (r0 : Sl), v = Sl.v r0 ∧ Q r0 H') := by
  unfold ideal_Ideal_Look at h
  refine callsH_of_go Try.func11 rfl Try.ntmps11 (Nat.le_of_ble_eq_true rfl) ?_
  refine Go.seq ?_
  refine Go.region rfl ?_
  refine GoOps.q (v := Sl.v Sl.nil) rfl rfl (by decide) (q_assign rfl) ?_
  refine GoOps.nil ?_
  refine Go.seq ?_
  refine Go.seq ?_
  refine Go.region rfl ?_
  refine GoOps.q (v := .pointer p0) rfl rfl (by decide) (q_move rfl) ?_
  refine GoOps.q (v := .int .i64 p1) rfl rfl (by decide) (q_move rfl) ?_
  refine call_dst rfl (by decide) body32 (ideal_Ideal_has_s _ _ _ _ _ h) rfl ?_
  rintro _ H1 ⟨y2, rfl, h⟩
  refine GoOps.q (v := .bool y2) rfl rfl (by decide) (q_move rfl) ?_
  refine join_ops 9 (fun ρ (s4 : Bool) => ρ 0 = .pointer p0 ∧ ρ 1 = .int .i64 p1 ∧ ρ 17 = .bool s4) h ?_ ?_ <;> clear h
  · intro s4 H6 ρ h hE
    obtain ⟨e7_0, e7_1, e7_17⟩ := hE
    refine GoOps.nil ?_
    rcases bor s4 with hc8 | hc8
    · have h := h.1 hc8
      refine Go.condT (btT e7_17 hc8) ?_
      refine Go.seq ?_
      refine Go.region rfl ?_
      refine GoOps.q (v := .pointer p0) rfl rfl (by decide) (q_move e7_0) ?_
      obtain ⟨a9, ha10, h⟩ := h
      refine GoOps.q (v := .pointer (some a9)) rfl rfl (by decide) (q_nilCheck (ptn rfl ha10)) ?_
      refine GoOps.q (v := .pointer (some (a9.add 1))) rfl rfl (by decide) (q_fieldAddr foff51_1 rfl) ?_
      obtain ⟨x11, hx12, h⟩ := h
      refine GoOps.q (v := Sl.v x11) rfl rfl (by decide) (q_load scalar49 rfl hx12) ?_
      refine GoOps.q (v := .int .i64 p1) rfl rfl (by decide) (q_move e7_1) ?_
      obtain ⟨a13, ha14, h⟩ := h
      refine GoOps.q (v := .pointer (some a13)) rfl rfl (by decide) (q_idx slice49 ha14 rfl rfl) ?_
      obtain ⟨x15, hx16, h⟩ := h
      refine GoOps.q (v := Sl.v x15) rfl rfl (by decide) (q_load scalar52 rfl hx16) ?_
      refine call_dst rfl (by decide) body33 (slices_Clone_ideal_block_byte_s _ _ _ h) rfl ?_
      rintro _ H17 ⟨y18, rfl, h⟩
      refine GoOps.q (v := Sl.v y18) rfl rfl (by decide) (q_assign rfl) ?_
      refine GoOps.nil ?_
      exact Go.ret ⟨.inl rfl, _, _, DOk.nil, (resOk1 Try.results11 rfl), ⟨_, rfl, h⟩⟩
    · have h := h.2 hc8
      refine Go.condF (btF e7_17 hc8) ?_
      refine Go.skip ?_
      refine Go.seq ?_
      refine Go.region rfl ?_
      refine GoOps.q (v := .pointer p0) rfl rfl (by decide) (q_move e7_0) ?_
      refine GoOps.q (v := .int .i64 p1) rfl rfl (by decide) (q_move e7_1) ?_
      refine call_dst rfl (by decide) body13 (ideal_Ideal_Read_s _ _ _ _ h) rfl ?_
      rintro _ H19 ⟨y20, rfl, h⟩
      refine GoOps.q (v := Sl.v y20) rfl rfl (by decide) (q_assign rfl) ?_
      refine GoOps.nil ?_
      exact Go.ret ⟨.inl rfl, _, _, DOk.nil, (resOk1 Try.results11 rfl), ⟨_, rfl, h⟩⟩
  · intro j5 hj5 h
    rcases bor y2 with hc3 | hc3
    · have h := h.1 hc3
      refine GoOps.q (v := .pointer p0) (want_yes rfl rfl rfl hc3) rfl (by decide) (q_move rfl) ?_
      obtain ⟨a21, ha22, h⟩ := h
      refine GoOps.q (v := .pointer (some a21)) (want_yes rfl rfl rfl hc3) rfl (by decide) (q_nilCheck (ptn rfl ha22)) ?_
      refine GoOps.q (v := .pointer (some (a21.add 1))) (want_yes rfl rfl rfl hc3) rfl (by decide) (q_fieldAddr foff51_1 rfl) ?_
      obtain ⟨x23, hx24, h⟩ := h
      refine GoOps.q (v := Sl.v x23) (want_yes rfl rfl rfl hc3) rfl (by decide) (q_load scalar49 rfl hx24) ?_
      refine GoOps.q (v := .int .i64 p1) (want_yes rfl rfl rfl hc3) rfl (by decide) (q_move rfl) ?_
      obtain ⟨a25, ha26, h⟩ := h
      refine GoOps.q (v := .pointer (some a25)) (want_yes rfl rfl rfl hc3) rfl (by decide) (q_idx slice49 ha26 rfl rfl) ?_
      obtain ⟨x27, hx28, h⟩ := h
      refine GoOps.q (v := Sl.v x27) (want_yes rfl rfl rfl hc3) rfl (by decide) (q_load scalar52 rfl hx28) ?_
      refine GoOps.q (v := .bool (!(Option.isNone x27.a))) (want_yes rfl rfl rfl hc3) rfl (by decide) (q_neqSn Try.underlying52 rfl rfl) ?_
      refine GoOps.q (v := .bool (!(Option.isNone x27.a))) rfl rfl (by decide) (q_pickT (btT rfl hc3) rfl) ?_
      exact hj5 (!(Option.isNone x27.a)) _ _ h (by exact ⟨rfl, rfl, rfl⟩)
    · have h := h.2 hc3
      refine no_dst (want_no rfl rfl rfl hc3) rfl (by decide) ?_
      refine no_dst (want_no rfl rfl rfl hc3) rfl (by decide) ?_
      refine no_dst (want_no rfl rfl rfl hc3) rfl (by decide) ?_
      refine no_dst (want_no rfl rfl rfl hc3) rfl (by decide) ?_
      refine no_dst (want_no rfl rfl rfl hc3) rfl (by decide) ?_
      refine no_dst (want_no rfl rfl rfl hc3) rfl (by decide) ?_
      refine no_dst (want_no rfl rfl rfl hc3) rfl (by decide) ?_
      refine no_dst (want_no rfl rfl rfl hc3) rfl (by decide) ?_
      refine GoOps.q (v := .bool false) rfl rfl (by decide) (q_pickF (btF rfl hc3) rfl) ?_
      exact hj5 false _ _ h (by exact ⟨rfl, rfl, rfl⟩)

/-- (*keelson.ideal.Ideal).Epoch -/
def ideal_Ideal_Epoch (p0 : Option Addr) (H : PH) (Q : Int → PH → Prop) : Prop :=
  mIf (Option.isNone p0)
  (Q 0 H)
  (mNil p0 fun a2 =>
  mLd (.int .i64) H (a2.add 2) fun x4 =>
  Q x4 H)

set_option maxRecDepth 20000 in
set_option maxHeartbeats 1000000 in
theorem ideal_Ideal_Epoch_s (p0 : Option Addr) (H : PH) (Q : Int → PH → Prop) (h : ideal_Ideal_Epoch p0 H Q) :
    CallsH Try.prog 9 #[.pointer p0] H (fun v H' => ∃ (r0 : Int), v = .int .i64 r0 ∧ Q r0 H') := by
  unfold ideal_Ideal_Epoch at h
  refine callsH_of_go Try.func9 rfl Try.ntmps9 (Nat.le_of_ble_eq_true rfl) ?_
  refine Go.seq ?_
  refine Go.region rfl ?_
  refine GoOps.q (v := .int .i64 0) rfl rfl (by decide) (q_assign rfl) ?_
  refine GoOps.nil ?_
  refine Go.seq ?_
  refine Go.seq ?_
  refine Go.region rfl ?_
  refine GoOps.q (v := .pointer p0) rfl rfl (by decide) (q_move rfl) ?_
  refine GoOps.q (v := .bool (Option.isNone p0)) rfl rfl (by decide) (q_eqlPn Try.underlying24 rfl rfl) ?_
  refine GoOps.nil ?_
  rcases bor (Option.isNone p0) with hc1 | hc1
  · have h := h.1 hc1
    refine Go.condT (btT rfl hc1) ?_
    refine Go.seq ?_
    refine Go.region rfl ?_
    refine GoOps.q (v := .int .i64 0) rfl rfl (by decide) (q_assign rfl) ?_
    refine GoOps.nil ?_
    exact Go.ret ⟨.inl rfl, _, _, DOk.nil, (resOk1 Try.results9 rfl), ⟨_, rfl, h⟩⟩
  · have h := h.2 hc1
    refine Go.condF (btF rfl hc1) ?_
    refine Go.skip ?_
    refine Go.seq ?_
    refine Go.region rfl ?_
    refine GoOps.q (v := .pointer p0) rfl rfl (by decide) (q_move rfl) ?_
    obtain ⟨a2, ha3, h⟩ := h
    refine GoOps.q (v := .pointer (some a2)) rfl rfl (by decide) (q_nilCheck (ptn rfl ha3)) ?_
    refine GoOps.q (v := .pointer (some (a2.add 2))) rfl rfl (by decide) (q_fieldAddr foff51_2 rfl) ?_
    obtain ⟨x4, hx5, h⟩ := h
    refine GoOps.q (v := .int .i64 x4) rfl rfl (by decide) (q_load scalar3 rfl hx5) ?_
    refine GoOps.q (v := .int .i64 x4) rfl rfl (by decide) (q_assign rfl) ?_
    refine GoOps.nil ?_
    exact Go.ret ⟨.inl rfl, _, _, DOk.nil, (resOk1 Try.results9 rfl), ⟨_, rfl, h⟩⟩

/-- (*keelson.ideal.Ideal).Seq -/
def ideal_Ideal_Seq (p0 : Option Addr) (H : PH) (Q : Int → PH → Prop) : Prop :=
  mIf (Option.isNone p0)
  (Q 0 H)
  (mNil p0 fun a2 =>
  mLd (.int .i64) H (a2.add 3) fun x4 =>
  Q x4 H)

set_option maxRecDepth 20000 in
set_option maxHeartbeats 1000000 in
theorem ideal_Ideal_Seq_s (p0 : Option Addr) (H : PH) (Q : Int → PH → Prop) (h : ideal_Ideal_Seq p0 H Q) :
    CallsH Try.prog 15 #[.pointer p0] H (fun v H' => ∃ (r0 : Int), v = .int .i64 r0 ∧ Q r0 H') := by
  unfold ideal_Ideal_Seq at h
  refine callsH_of_go Try.func15 rfl Try.ntmps15 (Nat.le_of_ble_eq_true rfl) ?_
  refine Go.seq ?_
  refine Go.region rfl ?_
  refine GoOps.q (v := .int .i64 0) rfl rfl (by decide) (q_assign rfl) ?_
  refine GoOps.nil ?_
  refine Go.seq ?_
  refine Go.seq ?_
  refine Go.region rfl ?_
  refine GoOps.q (v := .pointer p0) rfl rfl (by decide) (q_move rfl) ?_
  refine GoOps.q (v := .bool (Option.isNone p0)) rfl rfl (by decide) (q_eqlPn Try.underlying24 rfl rfl) ?_
  refine GoOps.nil ?_
  rcases bor (Option.isNone p0) with hc1 | hc1
  · have h := h.1 hc1
    refine Go.condT (btT rfl hc1) ?_
    refine Go.seq ?_
    refine Go.region rfl ?_
    refine GoOps.q (v := .int .i64 0) rfl rfl (by decide) (q_assign rfl) ?_
    refine GoOps.nil ?_
    exact Go.ret ⟨.inl rfl, _, _, DOk.nil, (resOk1 Try.results15 rfl), ⟨_, rfl, h⟩⟩
  · have h := h.2 hc1
    refine Go.condF (btF rfl hc1) ?_
    refine Go.skip ?_
    refine Go.seq ?_
    refine Go.region rfl ?_
    refine GoOps.q (v := .pointer p0) rfl rfl (by decide) (q_move rfl) ?_
    obtain ⟨a2, ha3, h⟩ := h
    refine GoOps.q (v := .pointer (some a2)) rfl rfl (by decide) (q_nilCheck (ptn rfl ha3)) ?_
    refine GoOps.q (v := .pointer (some (a2.add 3))) rfl rfl (by decide) (q_fieldAddr foff51_3 rfl) ?_
    obtain ⟨x4, hx5, h⟩ := h
    refine GoOps.q (v := .int .i64 x4) rfl rfl (by decide) (q_load scalar3 rfl hx5) ?_
    refine GoOps.q (v := .int .i64 x4) rfl rfl (by decide) (q_assign rfl) ?_
    refine GoOps.nil ?_
    exact Go.ret ⟨.inl rfl, _, _, DOk.nil, (resOk1 Try.results15 rfl), ⟨_, rfl, h⟩⟩

/-- (*keelson.ideal.Ideal).Done -/
def ideal_Ideal_Done (p0 : Option Addr) (H : PH) (Q : Int → PH → Prop) : Prop :=
  mIf (Option.isNone p0)
  (Q 0 H)
  (mNil p0 fun a2 =>
  mLd (.int .i64) H (a2.add 4) fun x4 =>
  Q x4 H)

set_option maxRecDepth 20000 in
set_option maxHeartbeats 1000000 in
theorem ideal_Ideal_Done_s (p0 : Option Addr) (H : PH) (Q : Int → PH → Prop) (h : ideal_Ideal_Done p0 H Q) :
    CallsH Try.prog 14 #[.pointer p0] H (fun v H' => ∃ (r0 : Int), v = .int .i64 r0 ∧ Q r0 H') := by
  unfold ideal_Ideal_Done at h
  refine callsH_of_go Try.func14 rfl Try.ntmps14 (Nat.le_of_ble_eq_true rfl) ?_
  refine Go.seq ?_
  refine Go.region rfl ?_
  refine GoOps.q (v := .int .i64 0) rfl rfl (by decide) (q_assign rfl) ?_
  refine GoOps.nil ?_
  refine Go.seq ?_
  refine Go.seq ?_
  refine Go.region rfl ?_
  refine GoOps.q (v := .pointer p0) rfl rfl (by decide) (q_move rfl) ?_
  refine GoOps.q (v := .bool (Option.isNone p0)) rfl rfl (by decide) (q_eqlPn Try.underlying24 rfl rfl) ?_
  refine GoOps.nil ?_
  rcases bor (Option.isNone p0) with hc1 | hc1
  · have h := h.1 hc1
    refine Go.condT (btT rfl hc1) ?_
    refine Go.seq ?_
    refine Go.region rfl ?_
    refine GoOps.q (v := .int .i64 0) rfl rfl (by decide) (q_assign rfl) ?_
    refine GoOps.nil ?_
    exact Go.ret ⟨.inl rfl, _, _, DOk.nil, (resOk1 Try.results14 rfl), ⟨_, rfl, h⟩⟩
  · have h := h.2 hc1
    refine Go.condF (btF rfl hc1) ?_
    refine Go.skip ?_
    refine Go.seq ?_
    refine Go.region rfl ?_
    refine GoOps.q (v := .pointer p0) rfl rfl (by decide) (q_move rfl) ?_
    obtain ⟨a2, ha3, h⟩ := h
    refine GoOps.q (v := .pointer (some a2)) rfl rfl (by decide) (q_nilCheck (ptn rfl ha3)) ?_
    refine GoOps.q (v := .pointer (some (a2.add 4))) rfl rfl (by decide) (q_fieldAddr foff51_4 rfl) ?_
    obtain ⟨x4, hx5, h⟩ := h
    refine GoOps.q (v := .int .i64 x4) rfl rfl (by decide) (q_load scalar3 rfl hx5) ?_
    refine GoOps.q (v := .int .i64 x4) rfl rfl (by decide) (q_assign rfl) ?_
    refine GoOps.nil ?_
    exact Go.ret ⟨.inl rfl, _, _, DOk.nil, (resOk1 Try.results14 rfl), ⟨_, rfl, h⟩⟩

/-- keelson.keelsonlaw24.awake -/
def keelsonlaw24_awake (H : PH) (Q : Bool → PH → Prop) : Prop :=
  ideal_New 3 H fun y2 H1 =>
  mJoin (fun (s4 : Bool) (H6 : PH) =>
  mIf s4
  (Q false H6)
  (keelsonalike_Fill 1 H6 fun y10 H9 =>
  ideal_Ideal_Do y2 (1, 1, 0, 0, y10) H9 fun y12 H11 =>
  ideal_Ideal_Do y2 (3, 0, 0, 2, Sl.nil) H11 fun y14 H13 =>
  ideal_Ideal_Do y2 (3, 0, 0, 1, Sl.nil) H13 fun y16 H15 =>
  keelsonalike_Fill 2 H15 fun y18 H17 =>
  ideal_Ideal_Do y2 (1, 1, 0, 0, y18) H17 fun y20 H19 =>
  mJoin (fun (s22 : Bool) (H24 : PH) =>
  mJoin (fun (s27 : Bool) (H29 : PH) =>
  mJoin (fun (s32 : Bool) (H34 : PH) =>
  mJoin (fun (s37 : Bool) (H39 : PH) =>
  mJoin (fun (s42 : Bool) (H44 : PH) =>
  mJoin (fun (s47 : Bool) (H49 : PH) =>
  mJoin (fun (s52 : Bool) (H54 : PH) =>
  mJoin (fun (s57 : Bool) (H59 : PH) =>
  mJoin (fun (s62 : Bool) (H64 : PH) =>
  mJoin (fun (s67 : Bool) (H69 : PH) =>
  Q s67 H69)
  fun j68 =>
  mIf s62
  (ideal_Ideal_Seq none H64 fun y72 H71 =>
  j68 (y72 == 0) H71)
  (j68 false H64))
  fun j63 =>
  mIf s57
  (ideal_Ideal_Read y2 3 H59 fun y74 H73 =>
  j63 ((y74.len : Int) == 0) H73)
  (j63 false H59))
  fun j58 =>
  mIf s52
  (ideal_Ideal_Done y2 H54 fun y76 H75 =>
  j58 (y76 == 2) H75)
  (j58 false H54))
  fun j53 =>
  mIf s47
  (ideal_Ideal_Seq y2 H49 fun y78 H77 =>
  j53 (y78 == 3) H77)
  (j53 false H49))
  fun j48 =>
  mIf s42
  (ideal_Ideal_Epoch y2 H44 fun y80 H79 =>
  j48 (y80 == 1) H79)
  (j48 false H44))
  fun j43 =>
  mIf s37
  (ideal_Ideal_Look y2 1 H39 fun y82 H81 =>
  keelsonalike_Fill 2 H81 fun y84 H83 =>
  keelsonalike_Bytes y82 y84 H83 fun y86 H85 =>
  j43 y86 H85)
  (j43 false H39))
  fun j38 =>
  mIf s32
  (ideal_Ideal_Read y2 1 H34 fun y88 H87 =>
  keelsonalike_Fill 1 H87 fun y90 H89 =>
  keelsonalike_Bytes y88 y90 H89 fun y92 H91 =>
  j38 y92 H91)
  (j38 false H34))
  fun j33 =>
  mIf s27
  (j33 y20 H29)
  (j33 false H29))
  fun j28 =>
  mIf s22
  (j28 y16 H24)
  (j28 false H24))
  fun j23 =>
  mIf y12
  (j23 (!y14) H19)
  (j23 false H19)))
  fun j5 =>
  mIf (Option.isNone y2)
  (j5 true H1)
  (ideal_New 0 H1 fun y94 H93 =>
  j5 (!(Option.isNone y94)) H93)

set_option maxRecDepth 20000 in
set_option maxHeartbeats 1000000 in
theorem keelsonlaw24_awake_s (H : PH) (Q : Bool → PH → Prop) (h : keelsonlaw24_awake H Q) :
    CallsH Try.prog 6 #[] H (fun v H' => ∃ (r0 : Bool), v = .bool r0 ∧ Q r0 H') := by
  unfold keelsonlaw24_awake at h
  refine callsH_of_go Try.func6 rfl Try.ntmps6 (Nat.le_of_ble_eq_true rfl) ?_
  refine Go.seq ?_
  refine Go.region rfl ?_
  refine GoOps.q (v := .bool false) rfl rfl (by decide) (q_assign rfl) ?_
  refine GoOps.nil ?_
  refine Go.seq ?_
  refine Go.region rfl ?_
  refine call_dst rfl (by decide) body7 (ideal_New_s _ _ _ h) rfl ?_
  rintro _ H1 ⟨y2, rfl, h⟩
  refine GoOps.q (v := .pointer y2) rfl rfl (by decide) (q_assign rfl) ?_
  refine GoOps.nil ?_
  refine Go.seq ?_
  refine Go.seq ?_
  refine Go.region rfl ?_
  refine GoOps.q (v := .pointer y2) rfl rfl (by decide) (q_move rfl) ?_
  refine GoOps.q (v := .bool (Option.isNone y2)) rfl rfl (by decide) (q_eqlPn Try.underlying24 rfl rfl) ?_
  refine GoOps.q (v := .bool (Option.isNone y2)) rfl rfl (by decide) (q_move rfl) ?_
  refine join_ops 3 (fun ρ (s4 : Bool) => ρ 1 = .pointer y2 ∧ ρ 13 = .bool s4) h ?_ ?_ <;> clear h
  · intro s4 H6 ρ h hE
    obtain ⟨e7_1, e7_13⟩ := hE
    refine GoOps.nil ?_
    rcases bor s4 with hc8 | hc8
    · have h := h.1 hc8
      refine Go.condT (btT e7_13 hc8) ?_
      refine Go.seq ?_
      refine Go.region rfl ?_
      refine GoOps.q (v := .bool false) rfl rfl (by decide) (q_assign rfl) ?_
      refine GoOps.nil ?_
      exact Go.ret ⟨.inl rfl, _, _, DOk.nil, (resOk1 Try.results6 rfl), ⟨_, rfl, h⟩⟩
    · have h := h.2 hc8
      refine Go.condF (btF e7_13 hc8) ?_
      refine Go.skip ?_
      refine Go.seq ?_
      refine Go.region rfl ?_
      refine GoOps.q (v := .pointer y2) rfl rfl (by decide) (q_move e7_1) ?_
      refine call_dst rfl (by decide) body27 (keelsonalike_Fill_s _ _ _ h) rfl ?_
      rintro _ H9 ⟨y10, rfl, h⟩
      refine GoOps.q (v := .agg ([.int .i64 1, .int .i64 1, .int .i64 0, .int .i64 0, Sl.v y10] : List Value).toArray) rfl rfl (by decide) (q_build (ps := [(0, .int .i64 1), (1, .int .i64 1), (4, Sl.v y10)]) (cs := [.int .i64 1, .int .i64 1, .int .i64 0, .int .i64 0, Sl.v y10]) places29 zero29 rfl rfl rfl) ?_
      refine call_dst rfl (by decide) body10 (ideal_Ideal_Do_s _ _ _ _ h) rfl ?_
      rintro _ H11 ⟨y12, rfl, h⟩
      refine GoOps.q (v := .bool y12) rfl rfl (by decide) (q_assign rfl) ?_
      refine GoOps.nil ?_
      refine Go.seq ?_
      refine Go.region rfl ?_
      refine GoOps.q (v := .pointer y2) rfl rfl (by decide) (q_move e7_1) ?_
      refine GoOps.q (v := .agg ([.int .i64 3, .int .i64 0, .int .i64 0, .int .i64 2, Sl.v Sl.nil] : List Value).toArray) rfl rfl (by decide) (q_build (ps := [(0, .int .i64 3), (3, .int .i64 2)]) (cs := [.int .i64 3, .int .i64 0, .int .i64 0, .int .i64 2, Sl.v Sl.nil]) places29 zero29 rfl rfl rfl) ?_
      refine call_dst rfl (by decide) body10 (ideal_Ideal_Do_s _ _ _ _ h) rfl ?_
      rintro _ H13 ⟨y14, rfl, h⟩
      refine GoOps.q (v := .bool y14) rfl rfl (by decide) (q_assign rfl) ?_
      refine GoOps.nil ?_
      refine Go.seq ?_
      refine Go.region rfl ?_
      refine GoOps.q (v := .pointer y2) rfl rfl (by decide) (q_move e7_1) ?_
      refine GoOps.q (v := .agg ([.int .i64 3, .int .i64 0, .int .i64 0, .int .i64 1, Sl.v Sl.nil] : List Value).toArray) rfl rfl (by decide) (q_build (ps := [(0, .int .i64 3), (3, .int .i64 1)]) (cs := [.int .i64 3, .int .i64 0, .int .i64 0, .int .i64 1, Sl.v Sl.nil]) places29 zero29 rfl rfl rfl) ?_
      refine call_dst rfl (by decide) body10 (ideal_Ideal_Do_s _ _ _ _ h) rfl ?_
      rintro _ H15 ⟨y16, rfl, h⟩
      refine GoOps.q (v := .bool y16) rfl rfl (by decide) (q_assign rfl) ?_
      refine GoOps.nil ?_
      refine Go.seq ?_
      refine Go.region rfl ?_
      refine GoOps.q (v := .pointer y2) rfl rfl (by decide) (q_move e7_1) ?_
      refine call_dst rfl (by decide) body27 (keelsonalike_Fill_s _ _ _ h) rfl ?_
      rintro _ H17 ⟨y18, rfl, h⟩
      refine GoOps.q (v := .agg ([.int .i64 1, .int .i64 1, .int .i64 0, .int .i64 0, Sl.v y18] : List Value).toArray) rfl rfl (by decide) (q_build (ps := [(0, .int .i64 1), (1, .int .i64 1), (4, Sl.v y18)]) (cs := [.int .i64 1, .int .i64 1, .int .i64 0, .int .i64 0, Sl.v y18]) places29 zero29 rfl rfl rfl) ?_
      refine call_dst rfl (by decide) body10 (ideal_Ideal_Do_s _ _ _ _ h) rfl ?_
      rintro _ H19 ⟨y20, rfl, h⟩
      refine GoOps.q (v := .bool y20) rfl rfl (by decide) (q_assign rfl) ?_
      refine GoOps.nil ?_
      refine Go.seq ?_
      refine Go.region rfl ?_
      refine GoOps.q (v := .pointer none) rfl rfl (by decide) (q_assign rfl) ?_
      refine GoOps.nil ?_
      refine Go.seq ?_
      refine Go.region rfl ?_
      refine GoOps.q (v := .bool y12) rfl rfl (by decide) (q_move rfl) ?_
      refine GoOps.q (v := .bool y12) rfl rfl (by decide) (q_move rfl) ?_
      refine join_ops 3 (fun ρ (s22 : Bool) => ρ 1 = .pointer y2 ∧ ρ 4 = .bool y16 ∧ ρ 5 = .bool y20 ∧ ρ 6 = .pointer none ∧ ρ 32 = .bool s22) h ?_ ?_ <;> clear h
      · intro s22 H24 ρ h hE
        obtain ⟨e25_1, e25_4, e25_5, e25_6, e25_32⟩ := hE
        refine GoOps.q (v := .bool s22) rfl rfl (by decide) (q_move e25_32) ?_
        refine join_ops 2 (fun ρ (s27 : Bool) => ρ 1 = .pointer y2 ∧ ρ 5 = .bool y20 ∧ ρ 6 = .pointer none ∧ ρ 35 = .bool s27) h ?_ ?_ <;> clear h
        · intro s27 H29 ρ h hE
          obtain ⟨e30_1, e30_5, e30_6, e30_35⟩ := hE
          refine GoOps.q (v := .bool s27) rfl rfl (by decide) (q_move e30_35) ?_
          refine join_ops 2 (fun ρ (s32 : Bool) => ρ 1 = .pointer y2 ∧ ρ 6 = .pointer none ∧ ρ 38 = .bool s32) h ?_ ?_ <;> clear h
          · intro s32 H34 ρ h hE
            obtain ⟨e35_1, e35_6, e35_38⟩ := hE
            refine GoOps.q (v := .bool s32) rfl rfl (by decide) (q_move e35_38) ?_
            refine join_ops 5 (fun ρ (s37 : Bool) => ρ 1 = .pointer y2 ∧ ρ 6 = .pointer none ∧ ρ 44 = .bool s37) h ?_ ?_ <;> clear h
            · intro s37 H39 ρ h hE
              obtain ⟨e40_1, e40_6, e40_44⟩ := hE
              refine GoOps.q (v := .bool s37) rfl rfl (by decide) (q_move e40_44) ?_
              refine join_ops 5 (fun ρ (s42 : Bool) => ρ 1 = .pointer y2 ∧ ρ 6 = .pointer none ∧ ρ 50 = .bool s42) h ?_ ?_ <;> clear h
              · intro s42 H44 ρ h hE
                obtain ⟨e45_1, e45_6, e45_50⟩ := hE
                refine GoOps.q (v := .bool s42) rfl rfl (by decide) (q_move e45_50) ?_
                refine join_ops 4 (fun ρ (s47 : Bool) => ρ 1 = .pointer y2 ∧ ρ 6 = .pointer none ∧ ρ 55 = .bool s47) h ?_ ?_ <;> clear h
                · intro s47 H49 ρ h hE
                  obtain ⟨e50_1, e50_6, e50_55⟩ := hE
                  refine GoOps.q (v := .bool s47) rfl rfl (by decide) (q_move e50_55) ?_
                  refine join_ops 4 (fun ρ (s52 : Bool) => ρ 1 = .pointer y2 ∧ ρ 6 = .pointer none ∧ ρ 60 = .bool s52) h ?_ ?_ <;> clear h
                  · intro s52 H54 ρ h hE
                    obtain ⟨e55_1, e55_6, e55_60⟩ := hE
                    refine GoOps.q (v := .bool s52) rfl rfl (by decide) (q_move e55_60) ?_
                    refine join_ops 4 (fun ρ (s57 : Bool) => ρ 1 = .pointer y2 ∧ ρ 6 = .pointer none ∧ ρ 65 = .bool s57) h ?_ ?_ <;> clear h
                    · intro s57 H59 ρ h hE
                      obtain ⟨e60_1, e60_6, e60_65⟩ := hE
                      refine GoOps.q (v := .bool s57) rfl rfl (by decide) (q_move e60_65) ?_
                      refine join_ops 5 (fun ρ (s62 : Bool) => ρ 6 = .pointer none ∧ ρ 71 = .bool s62) h ?_ ?_ <;> clear h
                      · intro s62 H64 ρ h hE
                        obtain ⟨e65_6, e65_71⟩ := hE
                        refine GoOps.q (v := .bool s62) rfl rfl (by decide) (q_move e65_71) ?_
                        refine join_ops 4 (fun ρ (s67 : Bool) => ρ 76 = .bool s67) h ?_ ?_ <;> clear h
                        · intro s67 H69 ρ h hE
                          have e70_76 := hE
                          refine GoOps.q (v := .bool s67) rfl rfl (by decide) (q_assign e70_76) ?_
                          refine GoOps.nil ?_
                          exact Go.ret ⟨.inl rfl, _, _, DOk.nil, (resOk1 Try.results6 rfl), ⟨_, rfl, h⟩⟩
                        · intro j68 hj68 h
                          rcases bor s62 with hc66 | hc66
                          · have h := h.1 hc66
                            refine GoOps.q (v := .pointer none) (want_yes rfl rfl rfl hc66) rfl (by decide) (q_move e65_6) ?_
                            refine call_dst (want_yes rfl rfl rfl hc66) (by decide) body15 (ideal_Ideal_Seq_s _ _ _ h) rfl ?_
                            rintro _ H71 ⟨y72, rfl, h⟩
                            refine GoOps.q (v := .bool (y72 == 0)) (want_yes rfl rfl rfl hc66) rfl (by decide) (q_eql rfl rfl) ?_
                            refine GoOps.q (v := .bool (y72 == 0)) rfl rfl (by decide) (q_pickT (btT rfl hc66) rfl) ?_
                            exact hj68 (y72 == 0) _ _ h (by exact rfl)
                          · have h := h.2 hc66
                            refine no_dst (want_no rfl rfl rfl hc66) rfl (by decide) ?_
                            refine no_dst (want_no rfl rfl rfl hc66) rfl (by decide) ?_
                            refine no_dst (want_no rfl rfl rfl hc66) rfl (by decide) ?_
                            refine GoOps.q (v := .bool false) rfl rfl (by decide) (q_pickF (btF rfl hc66) rfl) ?_
                            exact hj68 false _ _ h (by exact rfl)
                      · intro j63 hj63 h
                        rcases bor s57 with hc61 | hc61
                        · have h := h.1 hc61
                          refine GoOps.q (v := .pointer y2) (want_yes rfl rfl rfl hc61) rfl (by decide) (q_move e60_1) ?_
                          refine call_dst (want_yes rfl rfl rfl hc61) (by decide) body13 (ideal_Ideal_Read_s _ _ _ _ h) rfl ?_
                          rintro _ H73 ⟨y74, rfl, h⟩
                          refine GoOps.q (v := .int .i64 (y74.len : Int)) (want_yes rfl rfl rfl hc61) rfl (by decide) (q_len Try.underlying27 rfl (ls1 rfl)) ?_
                          refine GoOps.q (v := .bool ((y74.len : Int) == 0)) (want_yes rfl rfl rfl hc61) rfl (by decide) (q_eql rfl rfl) ?_
                          refine GoOps.q (v := .bool ((y74.len : Int) == 0)) rfl rfl (by decide) (q_pickT (btT rfl hc61) rfl) ?_
                          exact hj63 ((y74.len : Int) == 0) _ _ h (by exact ⟨e60_6, rfl⟩)
                        · have h := h.2 hc61
                          refine no_dst (want_no rfl rfl rfl hc61) rfl (by decide) ?_
                          refine no_dst (want_no rfl rfl rfl hc61) rfl (by decide) ?_
                          refine no_dst (want_no rfl rfl rfl hc61) rfl (by decide) ?_
                          refine no_dst (want_no rfl rfl rfl hc61) rfl (by decide) ?_
                          refine GoOps.q (v := .bool false) rfl rfl (by decide) (q_pickF (btF rfl hc61) rfl) ?_
                          exact hj63 false _ _ h (by exact ⟨e60_6, rfl⟩)
                    · intro j58 hj58 h
                      rcases bor s52 with hc56 | hc56
                      · have h := h.1 hc56
                        refine GoOps.q (v := .pointer y2) (want_yes rfl rfl rfl hc56) rfl (by decide) (q_move e55_1) ?_
                        refine call_dst (want_yes rfl rfl rfl hc56) (by decide) body14 (ideal_Ideal_Done_s _ _ _ h) rfl ?_
                        rintro _ H75 ⟨y76, rfl, h⟩
                        refine GoOps.q (v := .bool (y76 == 2)) (want_yes rfl rfl rfl hc56) rfl (by decide) (q_eql rfl rfl) ?_
                        refine GoOps.q (v := .bool (y76 == 2)) rfl rfl (by decide) (q_pickT (btT rfl hc56) rfl) ?_
                        exact hj58 (y76 == 2) _ _ h (by exact ⟨e55_1, e55_6, rfl⟩)
                      · have h := h.2 hc56
                        refine no_dst (want_no rfl rfl rfl hc56) rfl (by decide) ?_
                        refine no_dst (want_no rfl rfl rfl hc56) rfl (by decide) ?_
                        refine no_dst (want_no rfl rfl rfl hc56) rfl (by decide) ?_
                        refine GoOps.q (v := .bool false) rfl rfl (by decide) (q_pickF (btF rfl hc56) rfl) ?_
                        exact hj58 false _ _ h (by exact ⟨e55_1, e55_6, rfl⟩)
                  · intro j53 hj53 h
                    rcases bor s47 with hc51 | hc51
                    · have h := h.1 hc51
                      refine GoOps.q (v := .pointer y2) (want_yes rfl rfl rfl hc51) rfl (by decide) (q_move e50_1) ?_
                      refine call_dst (want_yes rfl rfl rfl hc51) (by decide) body15 (ideal_Ideal_Seq_s _ _ _ h) rfl ?_
                      rintro _ H77 ⟨y78, rfl, h⟩
                      refine GoOps.q (v := .bool (y78 == 3)) (want_yes rfl rfl rfl hc51) rfl (by decide) (q_eql rfl rfl) ?_
                      refine GoOps.q (v := .bool (y78 == 3)) rfl rfl (by decide) (q_pickT (btT rfl hc51) rfl) ?_
                      exact hj53 (y78 == 3) _ _ h (by exact ⟨e50_1, e50_6, rfl⟩)
                    · have h := h.2 hc51
                      refine no_dst (want_no rfl rfl rfl hc51) rfl (by decide) ?_
                      refine no_dst (want_no rfl rfl rfl hc51) rfl (by decide) ?_
                      refine no_dst (want_no rfl rfl rfl hc51) rfl (by decide) ?_
                      refine GoOps.q (v := .bool false) rfl rfl (by decide) (q_pickF (btF rfl hc51) rfl) ?_
                      exact hj53 false _ _ h (by exact ⟨e50_1, e50_6, rfl⟩)
                · intro j48 hj48 h
                  rcases bor s42 with hc46 | hc46
                  · have h := h.1 hc46
                    refine GoOps.q (v := .pointer y2) (want_yes rfl rfl rfl hc46) rfl (by decide) (q_move e45_1) ?_
                    refine call_dst (want_yes rfl rfl rfl hc46) (by decide) body9 (ideal_Ideal_Epoch_s _ _ _ h) rfl ?_
                    rintro _ H79 ⟨y80, rfl, h⟩
                    refine GoOps.q (v := .bool (y80 == 1)) (want_yes rfl rfl rfl hc46) rfl (by decide) (q_eql rfl rfl) ?_
                    refine GoOps.q (v := .bool (y80 == 1)) rfl rfl (by decide) (q_pickT (btT rfl hc46) rfl) ?_
                    exact hj48 (y80 == 1) _ _ h (by exact ⟨e45_1, e45_6, rfl⟩)
                  · have h := h.2 hc46
                    refine no_dst (want_no rfl rfl rfl hc46) rfl (by decide) ?_
                    refine no_dst (want_no rfl rfl rfl hc46) rfl (by decide) ?_
                    refine no_dst (want_no rfl rfl rfl hc46) rfl (by decide) ?_
                    refine GoOps.q (v := .bool false) rfl rfl (by decide) (q_pickF (btF rfl hc46) rfl) ?_
                    exact hj48 false _ _ h (by exact ⟨e45_1, e45_6, rfl⟩)
              · intro j43 hj43 h
                rcases bor s37 with hc41 | hc41
                · have h := h.1 hc41
                  refine GoOps.q (v := .pointer y2) (want_yes rfl rfl rfl hc41) rfl (by decide) (q_move e40_1) ?_
                  refine call_dst (want_yes rfl rfl rfl hc41) (by decide) body11 (ideal_Ideal_Look_s _ _ _ _ h) rfl ?_
                  rintro _ H81 ⟨y82, rfl, h⟩
                  refine call_dst (want_yes rfl rfl rfl hc41) (by decide) body27 (keelsonalike_Fill_s _ _ _ h) rfl ?_
                  rintro _ H83 ⟨y84, rfl, h⟩
                  refine call_dst (want_yes rfl rfl rfl hc41) (by decide) body12 (keelsonalike_Bytes_s _ _ _ _ h) rfl ?_
                  rintro _ H85 ⟨y86, rfl, h⟩
                  refine GoOps.q (v := .bool y86) rfl rfl (by decide) (q_pickT (btT rfl hc41) rfl) ?_
                  exact hj43 y86 _ _ h (by exact ⟨e40_1, e40_6, rfl⟩)
                · have h := h.2 hc41
                  refine no_dst (want_no rfl rfl rfl hc41) rfl (by decide) ?_
                  refine no_dst (want_no rfl rfl rfl hc41) rfl (by decide) ?_
                  refine no_dst (want_no rfl rfl rfl hc41) rfl (by decide) ?_
                  refine no_dst (want_no rfl rfl rfl hc41) rfl (by decide) ?_
                  refine GoOps.q (v := .bool false) rfl rfl (by decide) (q_pickF (btF rfl hc41) rfl) ?_
                  exact hj43 false _ _ h (by exact ⟨e40_1, e40_6, rfl⟩)
            · intro j38 hj38 h
              rcases bor s32 with hc36 | hc36
              · have h := h.1 hc36
                refine GoOps.q (v := .pointer y2) (want_yes rfl rfl rfl hc36) rfl (by decide) (q_move e35_1) ?_
                refine call_dst (want_yes rfl rfl rfl hc36) (by decide) body13 (ideal_Ideal_Read_s _ _ _ _ h) rfl ?_
                rintro _ H87 ⟨y88, rfl, h⟩
                refine call_dst (want_yes rfl rfl rfl hc36) (by decide) body27 (keelsonalike_Fill_s _ _ _ h) rfl ?_
                rintro _ H89 ⟨y90, rfl, h⟩
                refine call_dst (want_yes rfl rfl rfl hc36) (by decide) body12 (keelsonalike_Bytes_s _ _ _ _ h) rfl ?_
                rintro _ H91 ⟨y92, rfl, h⟩
                refine GoOps.q (v := .bool y92) rfl rfl (by decide) (q_pickT (btT rfl hc36) rfl) ?_
                exact hj38 y92 _ _ h (by exact ⟨e35_1, e35_6, rfl⟩)
              · have h := h.2 hc36
                refine no_dst (want_no rfl rfl rfl hc36) rfl (by decide) ?_
                refine no_dst (want_no rfl rfl rfl hc36) rfl (by decide) ?_
                refine no_dst (want_no rfl rfl rfl hc36) rfl (by decide) ?_
                refine no_dst (want_no rfl rfl rfl hc36) rfl (by decide) ?_
                refine GoOps.q (v := .bool false) rfl rfl (by decide) (q_pickF (btF rfl hc36) rfl) ?_
                exact hj38 false _ _ h (by exact ⟨e35_1, e35_6, rfl⟩)
          · intro j33 hj33 h
            rcases bor s27 with hc31 | hc31
            · have h := h.1 hc31
              refine GoOps.q (v := .bool y20) (want_yes rfl rfl rfl hc31) rfl (by decide) (q_move e30_5) ?_
              refine GoOps.q (v := .bool y20) rfl rfl (by decide) (q_pickT (btT rfl hc31) rfl) ?_
              exact hj33 y20 _ _ h (by exact ⟨e30_1, e30_6, rfl⟩)
            · have h := h.2 hc31
              refine no_dst (want_no rfl rfl rfl hc31) rfl (by decide) ?_
              refine GoOps.q (v := .bool false) rfl rfl (by decide) (q_pickF (btF rfl hc31) rfl) ?_
              exact hj33 false _ _ h (by exact ⟨e30_1, e30_6, rfl⟩)
        · intro j28 hj28 h
          rcases bor s22 with hc26 | hc26
          · have h := h.1 hc26
            refine GoOps.q (v := .bool y16) (want_yes rfl rfl rfl hc26) rfl (by decide) (q_move e25_4) ?_
            refine GoOps.q (v := .bool y16) rfl rfl (by decide) (q_pickT (btT rfl hc26) rfl) ?_
            exact hj28 y16 _ _ h (by exact ⟨e25_1, e25_5, e25_6, rfl⟩)
          · have h := h.2 hc26
            refine no_dst (want_no rfl rfl rfl hc26) rfl (by decide) ?_
            refine GoOps.q (v := .bool false) rfl rfl (by decide) (q_pickF (btF rfl hc26) rfl) ?_
            exact hj28 false _ _ h (by exact ⟨e25_1, e25_5, e25_6, rfl⟩)
      · intro j23 hj23 h
        rcases bor y12 with hc21 | hc21
        · have h := h.1 hc21
          refine GoOps.q (v := .bool y14) (want_yes rfl rfl rfl hc21) rfl (by decide) (q_move rfl) ?_
          refine GoOps.q (v := .bool (!y14)) (want_yes rfl rfl rfl hc21) rfl (by decide) (q_not rfl) ?_
          refine GoOps.q (v := .bool (!y14)) rfl rfl (by decide) (q_pickT (btT rfl hc21) rfl) ?_
          exact hj23 (!y14) _ _ h (by exact ⟨e7_1, rfl, rfl, rfl, rfl⟩)
        · have h := h.2 hc21
          refine no_dst (want_no rfl rfl rfl hc21) rfl (by decide) ?_
          refine no_dst (want_no rfl rfl rfl hc21) rfl (by decide) ?_
          refine GoOps.q (v := .bool false) rfl rfl (by decide) (q_pickF (btF rfl hc21) rfl) ?_
          exact hj23 false _ _ h (by exact ⟨e7_1, rfl, rfl, rfl, rfl⟩)
  · intro j5 hj5 h
    rcases bor (Option.isNone y2) with hc3 | hc3
    · have h := h.1 hc3
      refine no_dst (want_no rfl rfl rfl hc3) rfl (by decide) ?_
      refine no_dst (want_no rfl rfl rfl hc3) rfl (by decide) ?_
      refine GoOps.q (v := .bool true) rfl rfl (by decide) (q_pickT (btT rfl hc3) rfl) ?_
      exact hj5 true _ _ h (by exact ⟨rfl, rfl⟩)
    · have h := h.2 hc3
      refine call_dst (want_yes rfl rfl rfl hc3) (by decide) body7 (ideal_New_s _ _ _ h) rfl ?_
      rintro _ H93 ⟨y94, rfl, h⟩
      refine GoOps.q (v := .bool (!(Option.isNone y94))) (want_yes rfl rfl rfl hc3) rfl (by decide) (q_neqPn Try.underlying24 rfl rfl) ?_
      refine GoOps.q (v := .bool (!(Option.isNone y94))) rfl rfl (by decide) (q_pickF (btF rfl hc3) rfl) ?_
      exact hj5 (!(Option.isNone y94)) _ _ h (by exact ⟨rfl, rfl⟩)

/-- keelson.keelsonlaw24.op -/
def keelsonlaw24_op (p0 : Int) (p1 : Int) (p2 : Int) (p3 : Int) (H : PH) (Q : (Int × Int × Int × Int × Sl) → PH → Prop) : Prop :=
  mNew H (row [.int .i64 0, .int .i64 0, .int .i64 0, .int .i64 0, .slice none 0 0] 29) fun a1 H2 =>
  keelsonalike_Round p0 p1 H2 fun y5 H4 =>
  keelsonalike_Round p0 5 H4 fun y7 H6 =>
  mIf (y7 == 0)
  (mSt H6 a1 ([.int .i64 3, .int .i64 0, .int .i64 0, .int .i64 (IntKind.wrap .i64 (p3 + 1)), Sl.v Sl.nil]) fun H9 =>
  mLdR (fun (x : (Int × Int × Int × Int × Sl)) => [.int .i64 x.1, .int .i64 x.2.1, .int .i64 x.2.2.1, .int .i64 x.2.2.2.1, Sl.v x.2.2.2.2]) H9 a1 5 fun x11 =>
  Q (x11.1, x11.2.1, x11.2.2.1, x11.2.2.2.1, x11.2.2.2.2) H9)
  (mIf (y7 == 1)
  (mSt H6 a1 ([.int .i64 2, .int .i64 y5, .int .i64 1, .int .i64 0, Sl.v Sl.nil]) fun H14 =>
  mLdR (fun (x : (Int × Int × Int × Int × Sl)) => [.int .i64 x.1, .int .i64 x.2.1, .int .i64 x.2.2.1, .int .i64 x.2.2.2.1, Sl.v x.2.2.2.2]) H14 a1 5 fun x16 =>
  Q (x16.1, x16.2.1, x16.2.2.1, x16.2.2.2.1, x16.2.2.2.2) H14)
  (keelsonalike_Fill p2 H6 fun y19 H18 =>
  mSt H18 a1 ([.int .i64 1, .int .i64 y5, .int .i64 0, .int .i64 0, Sl.v y19]) fun H20 =>
  mLdR (fun (x : (Int × Int × Int × Int × Sl)) => [.int .i64 x.1, .int .i64 x.2.1, .int .i64 x.2.2.1, .int .i64 x.2.2.2.1, Sl.v x.2.2.2.2]) H20 a1 5 fun x22 =>
  Q (x22.1, x22.2.1, x22.2.2.1, x22.2.2.2.1, x22.2.2.2.2) H20))

set_option maxRecDepth 20000 in
set_option maxHeartbeats 1000000 in
theorem keelsonlaw24_op_s (p0 : Int) (p1 : Int) (p2 : Int) (p3 : Int) (H : PH) (Q : (Int × Int × Int × Int × Sl) → PH → Prop) (h : keelsonlaw24_op p0 p1 p2 p3 H Q) :
    CallsH Try.prog 8 #[.int .i64 p0, .int .i64 p1, .int .i64 p2, .int .i64 p3] H (fun v H' => ∃ (r0 : (Int × Int × Int × Int × Sl)), v = .agg ([.int .i64 r0.1, .int .i64 r0.2.1, .int .i64 r0.2.2.1, .int .i64 r0.2.2.2.1, Sl.v r0.2.2.2.2] : List Value).toArray ∧ Q r0 H') := by
  unfold keelsonlaw24_op at h
  refine callsH_of_go Try.func8 rfl Try.ntmps8 (Nat.le_of_ble_eq_true rfl) ?_
  refine Go.seq ?_
  refine Go.region rfl ?_
  refine op_dst rfl rfl (by decide) (do_new zero29 rfl fun a1 H2 hb3 => ?_) 
  have h := h a1 H2 hb3
  refine GoOps.nil ?_
  refine Go.seq ?_
  refine Go.region rfl ?_
  refine GoOps.q (v := .int .i64 p0) rfl rfl (by decide) (q_move rfl) ?_
  refine GoOps.q (v := .int .i64 p1) rfl rfl (by decide) (q_move rfl) ?_
  refine call_dst rfl (by decide) body25 (keelsonalike_Round_s _ _ _ _ h) rfl ?_
  rintro _ H4 ⟨y5, rfl, h⟩
  refine GoOps.q (v := .int .i64 y5) rfl rfl (by decide) (q_assign rfl) ?_
  refine GoOps.nil ?_
  refine Go.seq ?_
  refine Go.seq ?_
  refine Go.region rfl ?_
  refine GoOps.q (v := .int .i64 p0) rfl rfl (by decide) (q_move rfl) ?_
  refine call_dst rfl (by decide) body25 (keelsonalike_Round_s _ _ _ _ h) rfl ?_
  rintro _ H6 ⟨y7, rfl, h⟩
  refine GoOps.nil ?_
  refine Go.block ?_
  refine Go.seq ?_
  refine Go.region rfl ?_
  refine GoOps.q (v := .bool (y7 == 0)) rfl rfl (by decide) (q_eql rfl rfl) ?_
  refine GoOps.q (v := .bool (y7 == 0)) rfl rfl (by decide) (q_assign rfl) ?_
  refine GoOps.nil ?_
  rcases bor (y7 == 0) with hc8 | hc8
  · have h := h.1 hc8
    refine Go.condT (btT rfl hc8) ?_
    refine Go.seq ?_
    refine Go.region rfl ?_
    refine GoOps.q (v := .int .i64 p3) rfl rfl (by decide) (q_move rfl) ?_
    refine GoOps.q (v := .int .i64 (IntKind.wrap .i64 (p3 + 1))) rfl rfl (by decide) (q_add rfl rfl) ?_
    refine GoOps.q (v := .agg ([.int .i64 3, .int .i64 0, .int .i64 0, .int .i64 (IntKind.wrap .i64 (p3 + 1)), Sl.v Sl.nil] : List Value).toArray) rfl rfl (by decide) (q_build (ps := [(0, .int .i64 3), (3, .int .i64 (IntKind.wrap .i64 (p3 + 1)))]) (cs := [.int .i64 3, .int .i64 0, .int .i64 0, .int .i64 (IntKind.wrap .i64 (p3 + 1)), Sl.v Sl.nil]) places29 zero29 rfl rfl rfl) ?_
    obtain ⟨q10b, q10o, q10c, q10e, hq10a, hq10b, hq10l, hq10v, h⟩ := h
    refine op_none rfl rfl (do_store (vs := [.int .i64 3, .int .i64 0, .int .i64 0, .int .i64 (IntKind.wrap .i64 (p3 + 1)), Sl.v Sl.nil]) size29 (pta rfl hq10a) rfl rfl rfl hq10v hq10b hq10l ?_) 
    refine GoOps.nil ?_
    obtain ⟨x11, hx12, h⟩ := h
    exact Go.ret ⟨.inl rfl, _, _, DOk.nil, (resOkV1 Try.results8 (rv_cellA aggr29 rfl hx12)), ⟨_, rfl, h⟩⟩
  · have h := h.2 hc8
    refine Go.condF (btF rfl hc8) ?_
    refine Go.seq ?_
    refine Go.region rfl ?_
    refine GoOps.q (v := .bool (y7 == 1)) rfl rfl (by decide) (q_eql rfl rfl) ?_
    refine GoOps.q (v := .bool (y7 == 1)) rfl rfl (by decide) (q_assign rfl) ?_
    refine GoOps.nil ?_
    rcases bor (y7 == 1) with hc13 | hc13
    · have h := h.1 hc13
      refine Go.condT (btT rfl hc13) ?_
      refine Go.seq ?_
      refine Go.region rfl ?_
      refine GoOps.q (v := .int .i64 y5) rfl rfl (by decide) (q_move rfl) ?_
      refine GoOps.q (v := .agg ([.int .i64 2, .int .i64 y5, .int .i64 1, .int .i64 0, Sl.v Sl.nil] : List Value).toArray) rfl rfl (by decide) (q_build (ps := [(0, .int .i64 2), (1, .int .i64 y5), (2, .int .i64 1)]) (cs := [.int .i64 2, .int .i64 y5, .int .i64 1, .int .i64 0, Sl.v Sl.nil]) places29 zero29 rfl rfl rfl) ?_
      obtain ⟨q15b, q15o, q15c, q15e, hq15a, hq15b, hq15l, hq15v, h⟩ := h
      refine op_none rfl rfl (do_store (vs := [.int .i64 2, .int .i64 y5, .int .i64 1, .int .i64 0, Sl.v Sl.nil]) size29 (pta rfl hq15a) rfl rfl rfl hq15v hq15b hq15l ?_) 
      refine GoOps.nil ?_
      obtain ⟨x16, hx17, h⟩ := h
      exact Go.ret ⟨.inl rfl, _, _, DOk.nil, (resOkV1 Try.results8 (rv_cellA aggr29 rfl hx17)), ⟨_, rfl, h⟩⟩
    · have h := h.2 hc13
      refine Go.condF (btF rfl hc13) ?_
      refine Go.skip ?_
      refine Go.inBlock ?_
      refine Go.seq ?_
      refine Go.region rfl ?_
      refine GoOps.q (v := .int .i64 y5) rfl rfl (by decide) (q_move rfl) ?_
      refine GoOps.q (v := .int .i64 p2) rfl rfl (by decide) (q_move rfl) ?_
      refine call_dst rfl (by decide) body27 (keelsonalike_Fill_s _ _ _ h) rfl ?_
      rintro _ H18 ⟨y19, rfl, h⟩
      refine GoOps.q (v := .agg ([.int .i64 1, .int .i64 y5, .int .i64 0, .int .i64 0, Sl.v y19] : List Value).toArray) rfl rfl (by decide) (q_build (ps := [(0, .int .i64 1), (1, .int .i64 y5), (4, Sl.v y19)]) (cs := [.int .i64 1, .int .i64 y5, .int .i64 0, .int .i64 0, Sl.v y19]) places29 zero29 rfl rfl rfl) ?_
      obtain ⟨q21b, q21o, q21c, q21e, hq21a, hq21b, hq21l, hq21v, h⟩ := h
      refine op_none rfl rfl (do_store (vs := [.int .i64 1, .int .i64 y5, .int .i64 0, .int .i64 0, Sl.v y19]) size29 (pta rfl hq21a) rfl rfl rfl hq21v hq21b hq21l ?_) 
      refine GoOps.nil ?_
      obtain ⟨x22, hx23, h⟩ := h
      exact Go.ret ⟨.inl rfl, _, _, DOk.nil, (resOkV1 Try.results8 (rv_cellA aggr29 rfl hx23)), ⟨_, rfl, h⟩⟩

/-- (*keelson.ideal.Ideal).Forget -/
def ideal_Ideal_Forget (p0 : Option Addr) (H : PH) (Q : PH → Prop) : Prop :=
  mIf (!(Option.isNone p0))
  (mNil p0 fun a2 =>
  mLd Sl.v H (a2.add 1) fun x4 =>
  mClear H 1 [.slice none 0 0] x4 fun H6 =>
  mNil p0 fun a7 =>
  mLd (.int .i64) H6 (a7.add 4) fun x9 =>
  mNil p0 fun a11 =>
  mSt H6 (a11.add 3) ([.int .i64 x9]) fun H13 =>
  Q H13)
  (Q H)

set_option maxRecDepth 20000 in
set_option maxHeartbeats 1000000 in
theorem ideal_Ideal_Forget_s (p0 : Option Addr) (H : PH) (Q : PH → Prop) (h : ideal_Ideal_Forget p0 H Q) :
    CallsH Try.prog 16 #[.pointer p0] H (fun v H' => v = .tuple #[] ∧ Q H') := by
  unfold ideal_Ideal_Forget at h
  refine callsH_of_go Try.func16 rfl Try.ntmps16 (Nat.le_of_ble_eq_true rfl) ?_
  refine Go.seq ?_
  refine Go.region rfl ?_
  refine GoOps.q (v := .pointer p0) rfl rfl (by decide) (q_move rfl) ?_
  refine GoOps.q (v := .bool (!(Option.isNone p0))) rfl rfl (by decide) (q_neqPn Try.underlying24 rfl rfl) ?_
  refine GoOps.nil ?_
  rcases bor (!(Option.isNone p0)) with hc1 | hc1
  · have h := h.1 hc1
    refine Go.condT (btT rfl hc1) ?_
    refine Go.seq ?_
    refine Go.region rfl ?_
    refine GoOps.q (v := .pointer p0) rfl rfl (by decide) (q_move rfl) ?_
    obtain ⟨a2, ha3, h⟩ := h
    refine GoOps.q (v := .pointer (some a2)) rfl rfl (by decide) (q_nilCheck (ptn rfl ha3)) ?_
    refine GoOps.q (v := .pointer (some (a2.add 1))) rfl rfl (by decide) (q_fieldAddr foff51_1 rfl) ?_
    obtain ⟨x4, hx5, h⟩ := h
    refine GoOps.q (v := Sl.v x4) rfl rfl (by decide) (q_load scalar49 rfl hx5) ?_
    refine op_none rfl rfl (do_clear (zs := [.slice none 0 0]) slice49 zero52 rfl rfl rfl (by decide) rfl h fun H6 h => ?_) 
    refine GoOps.nil ?_
    refine Go.region rfl ?_
    refine GoOps.q (v := .pointer p0) rfl rfl (by decide) (q_move rfl) ?_
    refine GoOps.q (v := .pointer p0) rfl rfl (by decide) (q_move rfl) ?_
    obtain ⟨a7, ha8, h⟩ := h
    refine GoOps.q (v := .pointer (some a7)) rfl rfl (by decide) (q_nilCheck (ptn rfl ha8)) ?_
    refine GoOps.q (v := .pointer (some (a7.add 4))) rfl rfl (by decide) (q_fieldAddr foff51_4 rfl) ?_
    obtain ⟨x9, hx10, h⟩ := h
    refine GoOps.q (v := .int .i64 x9) rfl rfl (by decide) (q_load scalar3 rfl hx10) ?_
    obtain ⟨a11, ha12, h⟩ := h
    refine GoOps.q (v := .pointer (some a11)) rfl rfl (by decide) (q_nilCheck (ptn rfl ha12)) ?_
    refine GoOps.q (v := .pointer (some (a11.add 3))) rfl rfl (by decide) (q_fieldAddr foff51_3 rfl) ?_
    obtain ⟨q14b, q14o, q14c, q14e, hq14a, hq14b, hq14l, hq14v, h⟩ := h
    refine op_none rfl rfl (do_store (vs := [.int .i64 x9]) size3 (pta rfl hq14a) rfl rfl rfl hq14v hq14b hq14l ?_) 
    refine GoOps.nil ?_
    exact Go.fall ⟨.inr rfl, _, _, DOk.nil, (resOk0 Try.results16), ⟨rfl, h⟩⟩
  · have h := h.2 hc1
    refine Go.condF (btF rfl hc1) ?_
    refine Go.skip ?_
    exact Go.fall ⟨.inr rfl, _, _, DOk.nil, (resOk0 Try.results16), ⟨rfl, h⟩⟩


end Go.Proofs.Ytfjpapddfdhhlaa

import Derived.Test.YtdadhppapenjkaaProg
import Derived.Test.YtdadhppapenjkaaKxEq
import Derived.KernelRfl
set_option linter.unusedVariables false
set_option linter.unusedSimpArgs false
namespace Go.Proofs.Ytdadhppapenjkaa
open Go Go.Kx Go.Proofs
theorem body35 : Body Try.prog 35 := body_of Try.func35 rfl rfl
theorem zero25 : ZeroOf Try.prog 25 (.agg ([.int .i64 0, .int .i64 0, .int .i64 0] : List Value).toArray) := by unfold ZeroOf; kernel_rfl
theorem mixed : Try.prog.follows .mixedOrders = true := by kernel_rfl
theorem array22 : ArrayOf Try.prog 22 3 3 1 := ⟨Try.underlying22, by kernel_rfl⟩
theorem scalar3 : Scalar Try.prog 3 := ⟨_, Try.underlying3, trivial⟩
theorem places25 : PlacesOf Try.prog 25 [(0, 1), (1, 1), (2, 1)] := ⟨_, Try.underlying25, rfl, by kernel_rfl⟩
theorem size25 : (Try.prog.info? 25).map (·.size) = some 3 := by kernel_rfl
theorem aggr25 : Aggr Try.prog 25 3 := ⟨⟨_, Try.underlying25, trivial⟩, by kernel_rfl⟩
theorem body10 : Body Try.prog 10 := body_of Try.func10 rfl rfl
theorem foff25_0 : FieldOff Try.prog 25 0 0 := ⟨_, _, 1, Try.underlying25, rfl, rfl, by kernel_rfl, by decide⟩
theorem places51 : PlacesOf Try.prog 51 [(0, 3)] := ⟨_, Try.underlying51, rfl, by kernel_rfl⟩
theorem zero51 : ZeroOf Try.prog 51 (.agg ([.int .i64 0, .int .i64 0, .int .i64 0] : List Value).toArray) := by unfold ZeroOf; kernel_rfl
theorem foff25_2 : FieldOff Try.prog 25 2 2 := ⟨_, _, 1, Try.underlying25, rfl, rfl, by kernel_rfl, by decide⟩
theorem body34 : Body Try.prog 34 := body_of Try.func34 rfl rfl
theorem foff25_1 : FieldOff Try.prog 25 1 1 := ⟨_, _, 1, Try.underlying25, rfl, rfl, by kernel_rfl, by decide⟩
theorem foff51_0 : FieldOff Try.prog 51 0 0 := ⟨_, _, 3, Try.underlying51, rfl, rfl, by kernel_rfl, by decide⟩
theorem fis25_0 : FieldIs Try.prog 25 0 0 3 := ⟨_, _, Try.underlying25, rfl, rfl, rfl⟩
theorem body38 : Body Try.prog 38 := body_of Try.func38 rfl rfl
theorem body23 : Body Try.prog 23 := body_of Try.func23 rfl rfl
theorem body20 : Body Try.prog 20 := body_of Try.func20 rfl rfl
theorem body19 : Body Try.prog 19 := body_of Try.func19 rfl rfl
theorem body37 : Body Try.prog 37 := body_of Try.func37 rfl rfl
theorem body36 : Body Try.prog 36 := body_of Try.func36 rfl rfl
theorem body11 : Body Try.prog 11 := body_of Try.func11 rfl rfl
theorem body15 : Body Try.prog 15 := body_of Try.func15 rfl rfl
theorem body13 : Body Try.prog 13 := body_of Try.func13 rfl rfl
theorem body12 : Body Try.prog 12 := body_of Try.func12 rfl rfl
theorem body8 : Body Try.prog 8 := body_of Try.func8 rfl rfl
theorem aggr22 : Aggr Try.prog 22 3 := ⟨⟨_, Try.underlying22, trivial⟩, by kernel_rfl⟩
theorem body9 : Body Try.prog 9 := body_of Try.func9 rfl rfl
theorem slice23 : SliceOf Try.prog 23 3 1 := ⟨Try.underlying23, by kernel_rfl⟩
theorem body7 : Body Try.prog 7 := body_of Try.func7 rfl rfl
theorem body14 : Body Try.prog 14 := body_of Try.func14 rfl rfl
theorem size3 : (Try.prog.info? 3).map (·.size) = some 1 := by kernel_rfl
theorem bytes3 : BytesOf Try.prog 3 8 := by unfold BytesOf; kernel_rfl
theorem zero3 : ZeroOf Try.prog 3 (.int .i64 0) := by unfold ZeroOf; kernel_rfl
theorem body16 : Body Try.prog 16 := body_of Try.func16 rfl rfl
theorem body21 : Body Try.prog 21 := body_of Try.func21 rfl rfl
theorem body18 : Body Try.prog 18 := body_of Try.func18 rfl rfl
theorem body17 : Body Try.prog 17 := body_of Try.func17 rfl rfl
theorem body39 : Body Try.prog 39 := body_of Try.func39 rfl rfl
theorem body40 : Body Try.prog 40 := body_of Try.func40 rfl rfl
theorem body25 : Body Try.prog 25 := body_of Try.func25 rfl rfl
theorem body26 : Body Try.prog 26 := body_of Try.func26 rfl rfl
theorem body31 : Body Try.prog 31 := body_of Try.func31 rfl rfl
theorem body32 : Body Try.prog 32 := body_of Try.func32 rfl rfl
theorem body33 : Body Try.prog 33 := body_of Try.func33 rfl rfl
theorem body30 : Body Try.prog 30 := body_of Try.func30 rfl rfl
theorem body29 : Body Try.prog 29 := body_of Try.func29 rfl rfl
theorem body28 : Body Try.prog 28 := body_of Try.func28 rfl rfl
theorem body27 : Body Try.prog 27 := body_of Try.func27 rfl rfl
theorem body24 : Body Try.prog 24 := body_of Try.func24 rfl rfl
theorem held25 : Try.prog.stoodInHeld 25 = false := by kernel_rfl
theorem eqg25 : Try.prog.eqGuardType Try.prog.depth 25 = false := by kernel_rfl
theorem body22 : Body Try.prog 22 := body_of Try.func22 rfl rfl

/-- keelson.keelsonref1.Mod -/
def keelsonref1_Mod (p0 : Int) (p1 : Int) (H : PH) (Q : Int → PH → Prop) : Prop :=
  mNe p1 <|
  mJoin (fun (s2 : Int) (H4 : PH) =>
  Q s2 H4)
  fun j3 =>
  mIf (decide ((Int.tmod p0 p1) < 0))
  (j3 (IntKind.wrap .i64 ((Int.tmod p0 p1) + p1)) H)
  (j3 (Int.tmod p0 p1) H)

set_option maxRecDepth 20000 in
set_option maxHeartbeats 1000000 in
theorem keelsonref1_Mod_s (p0 : Int) (p1 : Int) (H : PH) (Q : Int → PH → Prop) (h : keelsonref1_Mod p0 p1 H Q) :
    CallsH Try.prog 35 #[.int .i64 p0, .int .i64 p1] H (fun v H' => ∃ (r0 : Int), v = .int .i64 r0 ∧ Q r0 H') := by
  unfold keelsonref1_Mod at h
  refine callsH_of_go Try.func35 rfl Try.ntmps35 (Nat.le_of_ble_eq_true rfl) ?_
  refine Go.seq ?_
  refine Go.region rfl ?_
  refine GoOps.q (v := .int .i64 0) rfl rfl (by decide) (q_assign rfl) ?_
  refine GoOps.nil ?_
  refine Go.seq ?_
  refine Go.region rfl ?_
  refine GoOps.q (v := .int .i64 p0) rfl rfl (by decide) (q_move rfl) ?_
  refine GoOps.q (v := .int .i64 p1) rfl rfl (by decide) (q_move rfl) ?_
  obtain ⟨hn1, h⟩ := h
  refine GoOps.q (v := .int .i64 (Int.tmod p0 p1)) rfl rfl (by decide) (q_rem hn1 rfl rfl) ?_
  refine GoOps.q (v := .int .i64 (Int.tmod p0 p1)) rfl rfl (by decide) (q_assign rfl) ?_
  refine GoOps.nil ?_
  refine Go.seq ?_
  refine Go.seq ?_
  refine Go.region rfl ?_
  refine GoOps.q (v := .int .i64 (Int.tmod p0 p1)) rfl rfl (by decide) (q_move rfl) ?_
  refine GoOps.q (v := .bool (decide ((Int.tmod p0 p1) < 0))) rfl rfl (by decide) (q_lss rfl rfl) ?_
  refine GoOps.nil ?_
  refine join_go 1 (fun ρ (s2 : Int) => ρ 5 = .int .i64 s2) h ?_ ?_ <;> clear h
  · intro s2 H4 ρ h hE
    have e5_5 := hE
    refine Go.seq ?_
    refine Go.region rfl ?_
    refine GoOps.q (v := .int .i64 s2) rfl rfl (by decide) (q_move e5_5) ?_
    refine GoOps.q (v := .int .i64 s2) rfl rfl (by decide) (q_assign rfl) ?_
    refine GoOps.nil ?_
    exact Go.ret ⟨.inl rfl, _, _, DOk.nil, (resOk1 Try.results35 rfl), ⟨_, rfl, h⟩⟩
  · intro j3 hj3 h
    rcases bor (decide ((Int.tmod p0 p1) < 0)) with hc6 | hc6
    · have h := h.1 hc6
      refine Go.condT (btT rfl hc6) ?_
      refine Go.region rfl ?_
      refine GoOps.q (v := .int .i64 (Int.tmod p0 p1)) rfl rfl (by decide) (q_move rfl) ?_
      refine GoOps.q (v := .int .i64 p1) rfl rfl (by decide) (q_move rfl) ?_
      refine GoOps.q (v := .int .i64 (IntKind.wrap .i64 ((Int.tmod p0 p1) + p1))) rfl rfl (by decide) (q_add rfl rfl) ?_
      refine GoOps.q (v := .int .i64 (IntKind.wrap .i64 ((Int.tmod p0 p1) + p1))) rfl rfl (by decide) (q_assign rfl) ?_
      refine GoOps.nil ?_
      exact hj3 _ _ _ h rfl
    · have h := h.2 hc6
      refine Go.condF (btF rfl hc6) ?_
      refine Go.skip ?_
      exact hj3 _ _ _ h rfl

/-- keelson.keelsonalike.Round -/
def keelsonalike_Round (p0 : Int) (p1 : Int) (H : PH) (Q : Int → PH → Prop) : Prop :=
  keelsonref1_Mod p0 p1 H fun y2 H1 =>
  Q y2 H1

set_option maxRecDepth 20000 in
set_option maxHeartbeats 1000000 in
theorem keelsonalike_Round_s (p0 : Int) (p1 : Int) (H : PH) (Q : Int → PH → Prop) (h : keelsonalike_Round p0 p1 H Q) :
    CallsH Try.prog 10 #[.int .i64 p0, .int .i64 p1] H (fun v H' => ∃ (r0 : Int), v = .int .i64 r0 ∧ Q r0 H') := by
  unfold keelsonalike_Round at h
  refine callsH_of_go Try.func10 rfl Try.ntmps10 (Nat.le_of_ble_eq_true rfl) ?_
  refine Go.seq ?_
  refine Go.region rfl ?_
  refine GoOps.q (v := .int .i64 0) rfl rfl (by decide) (q_assign rfl) ?_
  refine GoOps.nil ?_
  refine Go.seq ?_
  refine Go.region rfl ?_
  refine GoOps.q (v := .int .i64 p0) rfl rfl (by decide) (q_move rfl) ?_
  refine GoOps.q (v := .int .i64 p1) rfl rfl (by decide) (q_move rfl) ?_
  refine call_dst rfl (by decide) body35 (keelsonref1_Mod_s _ _ _ _ h) rfl ?_
  rintro _ H1 ⟨y2, rfl, h⟩
  refine GoOps.q (v := .int .i64 y2) rfl rfl (by decide) (q_assign rfl) ?_
  refine GoOps.nil ?_
  exact Go.ret ⟨.inl rfl, _, _, DOk.nil, (resOk1 Try.results10 rfl), ⟨_, rfl, h⟩⟩

/-- keelson.keelsonalike.Config -/
def keelsonalike_Config (p0 : (Int × Int × Int)) (p1 : Bool) (H : PH) (Q : (Int × Int × Int) → PH → Prop) : Prop :=
  mNew H (row [.int .i64 p0.1, .int .i64 p0.2.1, .int .i64 p0.2.2] 22) fun a1 H2 =>
  mNew H2 (row [.int .i64 0, .int .i64 0, .int .i64 0] 25) fun a4 H5 =>
  mIf p1
  (mIdxA 3 a1 1 0 fun a8 =>
  mLd (.int .i64) H5 a8 fun x10 =>
  mIdxA 3 a1 1 1 fun a12 =>
  mLd (.int .i64) H5 a12 fun x14 =>
  mIdxA 3 a1 1 2 fun a16 =>
  mLd (.int .i64) H5 a16 fun x18 =>
  keelsonalike_Round x10 24 H5 fun y21 H20 =>
  mSame H20 a16 (.int .i64 x18) <|
  mSame H20 a12 (.int .i64 x14) <|
  keelsonalike_Round x14 3 H20 fun y25 H24 =>
  mSame H24 a16 (.int .i64 x18) <|
  keelsonalike_Round x18 4 H24 fun y28 H27 =>
  mSt H27 a4 ([.int .i64 (IntKind.wrap .i64 (1 + y21)), .int .i64 (IntKind.wrap .i64 (8 + y25)), .int .i64 (IntKind.wrap .i64 (24 + y28))]) fun H29 =>
  mLdR (fun (x : (Int × Int × Int)) => [.int .i64 x.1, .int .i64 x.2.1, .int .i64 x.2.2]) H29 a4 3 fun x31 =>
  Q (x31.1, x31.2.1, x31.2.2) H29)
  (mIdxA 3 a1 1 0 fun a33 =>
  mLd (.int .i64) H5 a33 fun x35 =>
  mIdxA 3 a1 1 1 fun a37 =>
  mLd (.int .i64) H5 a37 fun x39 =>
  mIdxA 3 a1 1 2 fun a41 =>
  mLd (.int .i64) H5 a41 fun x43 =>
  keelsonalike_Round x35 64 H5 fun y46 H45 =>
  mSame H45 a41 (.int .i64 x43) <|
  mSame H45 a37 (.int .i64 x39) <|
  keelsonalike_Round x39 25 H45 fun y50 H49 =>
  mSame H49 a41 (.int .i64 x43) <|
  keelsonalike_Round x43 41 H49 fun y53 H52 =>
  mSt H52 a4 ([.int .i64 (IntKind.wrap .i64 (1 + y46)), .int .i64 (IntKind.wrap .i64 (8 + y50)), .int .i64 (IntKind.wrap .i64 (24 + y53))]) fun H54 =>
  mLdR (fun (x : (Int × Int × Int)) => [.int .i64 x.1, .int .i64 x.2.1, .int .i64 x.2.2]) H54 a4 3 fun x56 =>
  Q (x56.1, x56.2.1, x56.2.2) H54)

set_option maxRecDepth 20000 in
set_option maxHeartbeats 1000000 in
theorem keelsonalike_Config_s (p0 : (Int × Int × Int)) (p1 : Bool) (H : PH) (Q : (Int × Int × Int) → PH → Prop) (h : keelsonalike_Config p0 p1 H Q) :
    CallsH Try.prog 7 #[.agg ([.int .i64 p0.1, .int .i64 p0.2.1, .int .i64 p0.2.2] : List Value).toArray, .bool p1] H (fun v H' => ∃ (r0 : (Int × Int × Int)), v = .agg ([.int .i64 r0.1, .int .i64 r0.2.1, .int .i64 r0.2.2] : List Value).toArray ∧ Q r0 H') := by
  unfold keelsonalike_Config at h
  refine callsH_of_go Try.func7 rfl Try.ntmps7 (Nat.le_of_ble_eq_true rfl) ?_
  refine Go.seq ?_
  refine Go.region rfl ?_
  refine op_dst rfl rfl (by decide) (do_newBox (cs := [.int .i64 p0.1, .int .i64 p0.2.1, .int .i64 p0.2.2]) rfl rfl fun a1 H2 hb3 => ?_) 
  have h := h a1 H2 hb3
  refine op_dst rfl rfl (by decide) (do_new zero25 rfl fun a4 H5 hb6 => ?_) 
  have h := h a4 H5 hb6
  refine GoOps.nil ?_
  refine Go.seq ?_
  refine Go.seq ?_
  refine Go.region rfl ?_
  refine GoOps.q (v := .bool p1) rfl rfl (by decide) (q_move rfl) ?_
  refine GoOps.nil ?_
  rcases bor p1 with hc7 | hc7
  · have h := h.1 hc7
    refine Go.condT (btT rfl hc7) ?_
    refine Go.seq ?_
    refine Go.draw mixed ?_
    obtain ⟨a8, ha9, h⟩ := h
    refine plan_pure (i := 0) (d := 6) (S2 := 1) (v := .pointer (some a8)) rfl (by decide +kernel) rfl (q_idxA array22 ha9 rfl rfl) ?_
    obtain ⟨x10, hx11, h⟩ := h
    refine plan_load (i := 1) (d := 7) (S2 := 3) (v := .int .i64 x10) rfl (by decide +kernel) rfl (q_load scalar3 rfl hx11) ?_
    obtain ⟨a12, ha13, h⟩ := h
    refine plan_pure (i := 4) (d := 10) (S2 := 19) (v := .pointer (some a12)) rfl (by decide +kernel) rfl (q_idxA array22 ha13 rfl rfl) ?_
    obtain ⟨x14, hx15, h⟩ := h
    refine plan_load (i := 5) (d := 11) (S2 := 51) (v := .int .i64 x14) rfl (by decide +kernel) rfl (q_load scalar3 rfl hx15) ?_
    obtain ⟨a16, ha17, h⟩ := h
    refine plan_pure (i := 8) (d := 14) (S2 := 307) (v := .pointer (some a16)) rfl (by decide +kernel) rfl (q_idxA array22 ha17 rfl rfl) ?_
    obtain ⟨x18, hx19, h⟩ := h
    refine plan_load (i := 9) (d := 15) (S2 := 819) (v := .int .i64 x18) rfl (by decide +kernel) rfl (q_load scalar3 rfl hx19) ?_
    refine plan_one (j := 2) (S2 := 823) (by decide +kernel) rfl (by decide) rfl ?_
    refine do_call2 body10 (keelsonalike_Round_s _ _ _ _ h) rfl ?_
    rintro _ H20 ⟨y21, rfl, h⟩
    obtain ⟨hr22, h⟩ := h
    obtain ⟨hr23, h⟩ := h
    refine ⟨⟨.inr ⟨_, _, rfl, rfl, q_load scalar3 rfl hr22⟩, .inr ⟨_, _, rfl, rfl, q_load scalar3 rfl hr23⟩, .inl ⟨[2], by decide +kernel, rfl⟩, trivial⟩, ?_⟩
    refine plan_pure (i := 3) (d := 9) (S2 := 831) (v := .int .i64 (IntKind.wrap .i64 (1 + y21))) rfl (by decide +kernel) rfl (q_add rfl rfl) ?_
    refine plan_one (j := 6) (S2 := 895) (by decide +kernel) rfl (by decide) rfl ?_
    refine do_call2 body10 (keelsonalike_Round_s _ _ _ _ h) rfl ?_
    rintro _ H24 ⟨y25, rfl, h⟩
    obtain ⟨hr26, h⟩ := h
    refine ⟨⟨.inr ⟨_, _, rfl, rfl, q_load scalar3 rfl hr26⟩, .inl ⟨[6], by decide +kernel, rfl⟩, .inl ⟨[2, 6], by decide +kernel, rfl⟩, trivial⟩, ?_⟩
    refine plan_pure (i := 7) (d := 13) (S2 := 1023) (v := .int .i64 (IntKind.wrap .i64 (8 + y25))) rfl (by decide +kernel) rfl (q_add rfl rfl) ?_
    refine plan_one (j := 10) (S2 := 2047) (by decide +kernel) rfl (by decide) rfl ?_
    refine do_call2 body10 (keelsonalike_Round_s _ _ _ _ h) rfl ?_
    rintro _ H27 ⟨y28, rfl, h⟩
    refine ⟨⟨.inl ⟨[10], by decide +kernel, rfl⟩, .inl ⟨[6, 10], by decide +kernel, rfl⟩, .inl ⟨[2, 6, 10], by decide +kernel, rfl⟩, trivial⟩, ?_⟩
    refine plan_pure (i := 11) (d := 17) (S2 := 4095) (v := .int .i64 (IntKind.wrap .i64 (24 + y28))) rfl (by decide +kernel) rfl (q_add rfl rfl) ?_
    refine plan_pure (i := 12) (d := 18) (S2 := 8191) (v := .agg ([.int .i64 (IntKind.wrap .i64 (1 + y21)), .int .i64 (IntKind.wrap .i64 (8 + y25)), .int .i64 (IntKind.wrap .i64 (24 + y28))] : List Value).toArray) rfl (by decide +kernel) rfl (q_build (ps := [(0, .int .i64 (IntKind.wrap .i64 (1 + y21))), (1, .int .i64 (IntKind.wrap .i64 (8 + y25))), (2, .int .i64 (IntKind.wrap .i64 (24 + y28)))]) (cs := [.int .i64 (IntKind.wrap .i64 (1 + y21)), .int .i64 (IntKind.wrap .i64 (8 + y25)), .int .i64 (IntKind.wrap .i64 (24 + y28))]) places25 zero25 rfl rfl rfl) ?_
    refine plan_one (j := 13) (S2 := 16383) (by decide +kernel) rfl (by decide) rfl ?_
    obtain ⟨q30b, q30o, q30c, q30e, hq30a, hq30b, hq30l, hq30v, h⟩ := h
    refine do_store (vs := [.int .i64 (IntKind.wrap .i64 (1 + y21)), .int .i64 (IntKind.wrap .i64 (8 + y25)), .int .i64 (IntKind.wrap .i64 (24 + y28))]) size25 (pta rfl hq30a) rfl rfl rfl hq30v hq30b hq30l ?_
    refine ⟨⟨.inl ⟨[13], by decide +kernel, rfl⟩, .inl ⟨[13], by decide +kernel, rfl⟩, .inl ⟨[13], by decide +kernel, rfl⟩, trivial⟩, ?_⟩
    refine plan_done (by decide +kernel) ?_
    obtain ⟨x31, hx32, h⟩ := h
    exact Go.ret ⟨.inl rfl, _, _, DOk.nil, (resOkV1 Try.results7 (rv_cellA aggr25 rfl hx32)), ⟨_, rfl, h⟩⟩
  · have h := h.2 hc7
    refine Go.condF (btF rfl hc7) ?_
    refine Go.skip ?_
    refine Go.seq ?_
    refine Go.draw mixed ?_
    obtain ⟨a33, ha34, h⟩ := h
    refine plan_pure (i := 0) (d := 19) (S2 := 1) (v := .pointer (some a33)) rfl (by decide +kernel) rfl (q_idxA array22 ha34 rfl rfl) ?_
    obtain ⟨x35, hx36, h⟩ := h
    refine plan_load (i := 1) (d := 20) (S2 := 3) (v := .int .i64 x35) rfl (by decide +kernel) rfl (q_load scalar3 rfl hx36) ?_
    obtain ⟨a37, ha38, h⟩ := h
    refine plan_pure (i := 4) (d := 23) (S2 := 19) (v := .pointer (some a37)) rfl (by decide +kernel) rfl (q_idxA array22 ha38 rfl rfl) ?_
    obtain ⟨x39, hx40, h⟩ := h
    refine plan_load (i := 5) (d := 24) (S2 := 51) (v := .int .i64 x39) rfl (by decide +kernel) rfl (q_load scalar3 rfl hx40) ?_
    obtain ⟨a41, ha42, h⟩ := h
    refine plan_pure (i := 8) (d := 27) (S2 := 307) (v := .pointer (some a41)) rfl (by decide +kernel) rfl (q_idxA array22 ha42 rfl rfl) ?_
    obtain ⟨x43, hx44, h⟩ := h
    refine plan_load (i := 9) (d := 28) (S2 := 819) (v := .int .i64 x43) rfl (by decide +kernel) rfl (q_load scalar3 rfl hx44) ?_
    refine plan_one (j := 2) (S2 := 823) (by decide +kernel) rfl (by decide) rfl ?_
    refine do_call2 body10 (keelsonalike_Round_s _ _ _ _ h) rfl ?_
    rintro _ H45 ⟨y46, rfl, h⟩
    obtain ⟨hr47, h⟩ := h
    obtain ⟨hr48, h⟩ := h
    refine ⟨⟨.inr ⟨_, _, rfl, rfl, q_load scalar3 rfl hr47⟩, .inr ⟨_, _, rfl, rfl, q_load scalar3 rfl hr48⟩, .inl ⟨[2], by decide +kernel, rfl⟩, trivial⟩, ?_⟩
    refine plan_pure (i := 3) (d := 22) (S2 := 831) (v := .int .i64 (IntKind.wrap .i64 (1 + y46))) rfl (by decide +kernel) rfl (q_add rfl rfl) ?_
    refine plan_one (j := 6) (S2 := 895) (by decide +kernel) rfl (by decide) rfl ?_
    refine do_call2 body10 (keelsonalike_Round_s _ _ _ _ h) rfl ?_
    rintro _ H49 ⟨y50, rfl, h⟩
    obtain ⟨hr51, h⟩ := h
    refine ⟨⟨.inr ⟨_, _, rfl, rfl, q_load scalar3 rfl hr51⟩, .inl ⟨[6], by decide +kernel, rfl⟩, .inl ⟨[2, 6], by decide +kernel, rfl⟩, trivial⟩, ?_⟩
    refine plan_pure (i := 7) (d := 26) (S2 := 1023) (v := .int .i64 (IntKind.wrap .i64 (8 + y50))) rfl (by decide +kernel) rfl (q_add rfl rfl) ?_
    refine plan_one (j := 10) (S2 := 2047) (by decide +kernel) rfl (by decide) rfl ?_
    refine do_call2 body10 (keelsonalike_Round_s _ _ _ _ h) rfl ?_
    rintro _ H52 ⟨y53, rfl, h⟩
    refine ⟨⟨.inl ⟨[10], by decide +kernel, rfl⟩, .inl ⟨[6, 10], by decide +kernel, rfl⟩, .inl ⟨[2, 6, 10], by decide +kernel, rfl⟩, trivial⟩, ?_⟩
    refine plan_pure (i := 11) (d := 30) (S2 := 4095) (v := .int .i64 (IntKind.wrap .i64 (24 + y53))) rfl (by decide +kernel) rfl (q_add rfl rfl) ?_
    refine plan_pure (i := 12) (d := 31) (S2 := 8191) (v := .agg ([.int .i64 (IntKind.wrap .i64 (1 + y46)), .int .i64 (IntKind.wrap .i64 (8 + y50)), .int .i64 (IntKind.wrap .i64 (24 + y53))] : List Value).toArray) rfl (by decide +kernel) rfl (q_build (ps := [(0, .int .i64 (IntKind.wrap .i64 (1 + y46))), (1, .int .i64 (IntKind.wrap .i64 (8 + y50))), (2, .int .i64 (IntKind.wrap .i64 (24 + y53)))]) (cs := [.int .i64 (IntKind.wrap .i64 (1 + y46)), .int .i64 (IntKind.wrap .i64 (8 + y50)), .int .i64 (IntKind.wrap .i64 (24 + y53))]) places25 zero25 rfl rfl rfl) ?_
    refine plan_one (j := 13) (S2 := 16383) (by decide +kernel) rfl (by decide) rfl ?_
    obtain ⟨q55b, q55o, q55c, q55e, hq55a, hq55b, hq55l, hq55v, h⟩ := h
    refine do_store (vs := [.int .i64 (IntKind.wrap .i64 (1 + y46)), .int .i64 (IntKind.wrap .i64 (8 + y50)), .int .i64 (IntKind.wrap .i64 (24 + y53))]) size25 (pta rfl hq55a) rfl rfl rfl hq55v hq55b hq55l ?_
    refine ⟨⟨.inl ⟨[13], by decide +kernel, rfl⟩, .inl ⟨[13], by decide +kernel, rfl⟩, .inl ⟨[13], by decide +kernel, rfl⟩, trivial⟩, ?_⟩
    refine plan_done (by decide +kernel) ?_
    obtain ⟨x56, hx57, h⟩ := h
    exact Go.ret ⟨.inl rfl, _, _, DOk.nil, (resOkV1 Try.results7 (rv_cellA aggr25 rfl hx57)), ⟨_, rfl, h⟩⟩

/-- keelson.geom.within -/
def geom_within (p0 : Int) (p1 : Int) (p2 : Int) (H : PH) (Q : Bool → PH → Prop) : Prop :=
  mJoin (fun (s2 : Bool) (H4 : PH) =>
  Q s2 H4)
  fun j3 =>
  mIf (decide (p1 ≤ p0))
  (j3 (decide (p0 ≤ p2)) H)
  (j3 false H)

set_option maxRecDepth 20000 in
set_option maxHeartbeats 1000000 in
theorem geom_within_s (p0 : Int) (p1 : Int) (p2 : Int) (H : PH) (Q : Bool → PH → Prop) (h : geom_within p0 p1 p2 H Q) :
    CallsH Try.prog 34 #[.int .i64 p0, .int .i64 p1, .int .i64 p2] H (fun v H' => ∃ (r0 : Bool), v = .bool r0 ∧ Q r0 H') := by
  unfold geom_within at h
  refine callsH_of_go Try.func34 rfl Try.ntmps34 (Nat.le_of_ble_eq_true rfl) ?_
  refine Go.seq ?_
  refine Go.region rfl ?_
  refine GoOps.q (v := .bool false) rfl rfl (by decide) (q_assign rfl) ?_
  refine GoOps.nil ?_
  refine Go.seq ?_
  refine Go.region rfl ?_
  refine GoOps.q (v := .int .i64 p0) rfl rfl (by decide) (q_move rfl) ?_
  refine GoOps.q (v := .int .i64 p1) rfl rfl (by decide) (q_move rfl) ?_
  refine GoOps.q (v := .bool (decide (p1 ≤ p0))) rfl rfl (by decide) (q_geq rfl rfl) ?_
  refine GoOps.q (v := .bool (decide (p1 ≤ p0))) rfl rfl (by decide) (q_move rfl) ?_
  refine join_ops 4 (fun ρ (s2 : Bool) => ρ 14 = .bool s2) h ?_ ?_ <;> clear h
  · intro s2 H4 ρ h hE
    have e5_14 := hE
    refine GoOps.q (v := .bool s2) rfl rfl (by decide) (q_assign e5_14) ?_
    refine GoOps.nil ?_
    exact Go.ret ⟨.inl rfl, _, _, DOk.nil, (resOk1 Try.results34 rfl), ⟨_, rfl, h⟩⟩
  · intro j3 hj3 h
    rcases bor (decide (p1 ≤ p0)) with hc1 | hc1
    · have h := h.1 hc1
      refine GoOps.q (v := .int .i64 p0) (want_yes rfl rfl rfl hc1) rfl (by decide) (q_move rfl) ?_
      refine GoOps.q (v := .int .i64 p2) (want_yes rfl rfl rfl hc1) rfl (by decide) (q_move rfl) ?_
      refine GoOps.q (v := .bool (decide (p0 ≤ p2))) (want_yes rfl rfl rfl hc1) rfl (by decide) (q_leq rfl rfl) ?_
      refine GoOps.q (v := .bool (decide (p0 ≤ p2))) rfl rfl (by decide) (q_pickT (btT rfl hc1) rfl) ?_
      exact hj3 _ _ _ h rfl
    · have h := h.2 hc1
      refine no_dst (want_no rfl rfl rfl hc1) rfl (by decide) ?_
      refine no_dst (want_no rfl rfl rfl hc1) rfl (by decide) ?_
      refine no_dst (want_no rfl rfl rfl hc1) rfl (by decide) ?_
      refine GoOps.q (v := .bool false) rfl rfl (by decide) (q_pickF (btF rfl hc1) rfl) ?_
      exact hj3 _ _ _ h rfl

/-- keelson.geom.New -/
def geom_New (p0 : (Int × Int × Int)) (H : PH) (Q : Option Addr → Int → PH → Prop) : Prop :=
  mNew H (row [.int .i64 p0.1, .int .i64 p0.2.1, .int .i64 p0.2.2] 25) fun a1 H2 =>
  mLd (.int .i64) H2 (a1.add 0) fun x4 =>
  geom_within x4 1 64 H2 fun y7 H6 =>
  mJoin (fun (s9 : Bool) (H11 : PH) =>
  mJoin (fun (s14 : Bool) (H16 : PH) =>
  mIf s14
  (Q none 1 H16)
  (mLdR (fun (x : (Int × Int × Int)) => [.int .i64 x.1, .int .i64 x.2.1, .int .i64 x.2.2]) H16 a1 3 fun x19 =>
  mNew H16 (row [.int .i64 x19.1, .int .i64 x19.2.1, .int .i64 x19.2.2] 51) fun a21 H22 =>
  Q (some a21) 0 H22))
  fun j15 =>
  mIf s9
  (j15 true H11)
  (mLd (.int .i64) H11 (a1.add 2) fun x24 =>
  geom_within x24 24 64 H11 fun y27 H26 =>
  j15 (!y27) H26))
  fun j10 =>
  mIf (!y7)
  (j10 true H6)
  (mLd (.int .i64) H6 (a1.add 1) fun x28 =>
  geom_within x28 8 32 H6 fun y31 H30 =>
  j10 (!y31) H30)

set_option maxRecDepth 20000 in
set_option maxHeartbeats 1000000 in
theorem geom_New_s (p0 : (Int × Int × Int)) (H : PH) (Q : Option Addr → Int → PH → Prop) (h : geom_New p0 H Q) :
    CallsH Try.prog 8 #[.agg ([.int .i64 p0.1, .int .i64 p0.2.1, .int .i64 p0.2.2] : List Value).toArray] H (fun v H' => ∃ (r0 : Option Addr) (r1 : Int), v = .tuple #[.pointer r0, .int .i64 r1] ∧ Q r0 r1 H') := by
  unfold geom_New at h
  refine callsH_of_go Try.func8 rfl Try.ntmps8 (Nat.le_of_ble_eq_true rfl) ?_
  refine Go.seq ?_
  refine Go.region rfl ?_
  refine op_dst rfl rfl (by decide) (do_newBox (cs := [.int .i64 p0.1, .int .i64 p0.2.1, .int .i64 p0.2.2]) rfl rfl fun a1 H2 hb3 => ?_) 
  have h := h a1 H2 hb3
  refine GoOps.q (v := .pointer none) rfl rfl (by decide) (q_assign rfl) ?_
  refine GoOps.q (v := .int .i64 0) rfl rfl (by decide) (q_assign rfl) ?_
  refine GoOps.nil ?_
  refine Go.seq ?_
  refine Go.seq ?_
  refine Go.region rfl ?_
  refine GoOps.q (v := .pointer (some (a1.add 0))) rfl rfl (by decide) (q_fieldAddr foff25_0 rfl) ?_
  obtain ⟨x4, hx5, h⟩ := h
  refine GoOps.q (v := .int .i64 x4) rfl rfl (by decide) (q_load scalar3 rfl hx5) ?_
  refine call_dst rfl (by decide) body34 (geom_within_s _ _ _ _ _ h) rfl ?_
  rintro _ H6 ⟨y7, rfl, h⟩
  refine GoOps.q (v := .bool (!y7)) rfl rfl (by decide) (q_not rfl) ?_
  refine GoOps.q (v := .bool (!y7)) rfl rfl (by decide) (q_move rfl) ?_
  refine join_ops 5 (fun ρ (s9 : Bool) => ρ 1 = .pointer (some a1) ∧ ρ 13 = .bool s9) h ?_ ?_ <;> clear h
  · intro s9 H11 ρ h hE
    obtain ⟨e12_1, e12_13⟩ := hE
    refine GoOps.q (v := .bool s9) rfl rfl (by decide) (q_move e12_13) ?_
    refine join_ops 5 (fun ρ (s14 : Bool) => ρ 1 = .pointer (some a1) ∧ ρ 19 = .bool s14) h ?_ ?_ <;> clear h
    · intro s14 H16 ρ h hE
      obtain ⟨e17_1, e17_19⟩ := hE
      refine GoOps.nil ?_
      rcases bor s14 with hc18 | hc18
      · have h := h.1 hc18
        refine Go.condT (btT e17_19 hc18) ?_
        refine Go.seq ?_
        refine Go.region rfl ?_
        refine GoOps.q (v := .pointer none) rfl rfl (by decide) (q_assign rfl) ?_
        refine GoOps.q (v := .int .i64 1) rfl rfl (by decide) (q_assign rfl) ?_
        refine GoOps.nil ?_
        exact Go.ret ⟨.inl rfl, _, _, DOk.nil, (resOk2 Try.results8 rfl rfl), ⟨_, _, rfl, h⟩⟩
      · have h := h.2 hc18
        refine Go.condF (btF e17_19 hc18) ?_
        refine Go.skip ?_
        refine Go.seq ?_
        refine Go.region rfl ?_
        obtain ⟨x19, hx20, h⟩ := h
        refine GoOps.q (v := .agg ([.int .i64 x19.1, .int .i64 x19.2.1, .int .i64 x19.2.2] : List Value).toArray) rfl rfl (by decide) (q_loadA aggr25 e17_1 hx20) ?_
        refine GoOps.q (v := .agg ([.int .i64 x19.1, .int .i64 x19.2.1, .int .i64 x19.2.2] : List Value).toArray) rfl rfl (by decide) (q_build (ps := [(0, .agg ([.int .i64 x19.1, .int .i64 x19.2.1, .int .i64 x19.2.2] : List Value).toArray)]) (cs := [.int .i64 x19.1, .int .i64 x19.2.1, .int .i64 x19.2.2]) places51 zero51 rfl rfl rfl) ?_
        refine op_dst rfl rfl (by decide) (do_newBox (cs := [.int .i64 x19.1, .int .i64 x19.2.1, .int .i64 x19.2.2]) rfl rfl fun a21 H22 hb23 => ?_) 
        have h := h a21 H22 hb23
        refine GoOps.q (v := .pointer (some a21)) rfl rfl (by decide) (q_assign rfl) ?_
        refine GoOps.q (v := .int .i64 0) rfl rfl (by decide) (q_assign rfl) ?_
        refine GoOps.nil ?_
        exact Go.ret ⟨.inl rfl, _, _, DOk.nil, (resOk2 Try.results8 rfl rfl), ⟨_, _, rfl, h⟩⟩
    · intro j15 hj15 h
      rcases bor s9 with hc13 | hc13
      · have h := h.1 hc13
        refine no_dst (want_no rfl rfl rfl hc13) rfl (by decide) ?_
        refine no_dst (want_no rfl rfl rfl hc13) rfl (by decide) ?_
        refine no_dst (want_no rfl rfl rfl hc13) rfl (by decide) ?_
        refine no_dst (want_no rfl rfl rfl hc13) rfl (by decide) ?_
        refine GoOps.q (v := .bool true) rfl rfl (by decide) (q_pickT (btT rfl hc13) rfl) ?_
        exact hj15 _ _ _ h ⟨e12_1, rfl⟩
      · have h := h.2 hc13
        refine GoOps.q (v := .pointer (some (a1.add 2))) (want_yes rfl rfl rfl hc13) rfl (by decide) (q_fieldAddr foff25_2 e12_1) ?_
        obtain ⟨x24, hx25, h⟩ := h
        refine GoOps.q (v := .int .i64 x24) (want_yes rfl rfl rfl hc13) rfl (by decide) (q_load scalar3 rfl hx25) ?_
        refine call_dst (want_yes rfl rfl rfl hc13) (by decide) body34 (geom_within_s _ _ _ _ _ h) rfl ?_
        rintro _ H26 ⟨y27, rfl, h⟩
        refine GoOps.q (v := .bool (!y27)) (want_yes rfl rfl rfl hc13) rfl (by decide) (q_not rfl) ?_
        refine GoOps.q (v := .bool (!y27)) rfl rfl (by decide) (q_pickF (btF rfl hc13) rfl) ?_
        exact hj15 _ _ _ h ⟨e12_1, rfl⟩
  · intro j10 hj10 h
    rcases bor (!y7) with hc8 | hc8
    · have h := h.1 hc8
      refine no_dst (want_no rfl rfl rfl hc8) rfl (by decide) ?_
      refine no_dst (want_no rfl rfl rfl hc8) rfl (by decide) ?_
      refine no_dst (want_no rfl rfl rfl hc8) rfl (by decide) ?_
      refine no_dst (want_no rfl rfl rfl hc8) rfl (by decide) ?_
      refine GoOps.q (v := .bool true) rfl rfl (by decide) (q_pickT (btT rfl hc8) rfl) ?_
      exact hj10 _ _ _ h ⟨rfl, rfl⟩
    · have h := h.2 hc8
      refine GoOps.q (v := .pointer (some (a1.add 1))) (want_yes rfl rfl rfl hc8) rfl (by decide) (q_fieldAddr foff25_1 rfl) ?_
      obtain ⟨x28, hx29, h⟩ := h
      refine GoOps.q (v := .int .i64 x28) (want_yes rfl rfl rfl hc8) rfl (by decide) (q_load scalar3 rfl hx29) ?_
      refine call_dst (want_yes rfl rfl rfl hc8) (by decide) body34 (geom_within_s _ _ _ _ _ h) rfl ?_
      rintro _ H30 ⟨y31, rfl, h⟩
      refine GoOps.q (v := .bool (!y31)) (want_yes rfl rfl rfl hc8) rfl (by decide) (q_not rfl) ?_
      refine GoOps.q (v := .bool (!y31)) rfl rfl (by decide) (q_pickF (btF rfl hc8) rfl) ?_
      exact hj10 _ _ _ h ⟨rfl, rfl⟩

/-- (*keelson.geom.Geom).Config -/
def geom_Geom_Config (p0 : Option Addr) (H : PH) (Q : (Int × Int × Int) → PH → Prop) : Prop :=
  mNew H (row [.int .i64 0, .int .i64 0, .int .i64 0] 25) fun a1 H2 =>
  mIf (Option.isNone p0)
  (mSt H2 a1 ([.int .i64 0, .int .i64 0, .int .i64 0]) fun H5 =>
  mLdR (fun (x : (Int × Int × Int)) => [.int .i64 x.1, .int .i64 x.2.1, .int .i64 x.2.2]) H5 a1 3 fun x7 =>
  Q (x7.1, x7.2.1, x7.2.2) H5)
  (mNil p0 fun a9 =>
  mLdR (fun (x : (Int × Int × Int)) => [.int .i64 x.1, .int .i64 x.2.1, .int .i64 x.2.2]) H2 (a9.add 0) 3 fun x11 =>
  mSt H2 a1 ([.int .i64 x11.1, .int .i64 x11.2.1, .int .i64 x11.2.2]) fun H13 =>
  mLdR (fun (x : (Int × Int × Int)) => [.int .i64 x.1, .int .i64 x.2.1, .int .i64 x.2.2]) H13 a1 3 fun x15 =>
  Q (x15.1, x15.2.1, x15.2.2) H13)

set_option maxRecDepth 20000 in
set_option maxHeartbeats 1000000 in
theorem geom_Geom_Config_s (p0 : Option Addr) (H : PH) (Q : (Int × Int × Int) → PH → Prop) (h : geom_Geom_Config p0 H Q) :
    CallsH Try.prog 23 #[.pointer p0] H (fun v H' => ∃ (r0 : (Int × Int × Int)), v = .agg ([.int .i64 r0.1, .int .i64 r0.2.1, .int .i64 r0.2.2] : List Value).toArray ∧ Q r0 H') := by
  unfold geom_Geom_Config at h
  refine callsH_of_go Try.func23 rfl Try.ntmps23 (Nat.le_of_ble_eq_true rfl) ?_
  refine Go.seq ?_
  refine Go.region rfl ?_
  refine op_dst rfl rfl (by decide) (do_new zero25 rfl fun a1 H2 hb3 => ?_) 
  have h := h a1 H2 hb3
  refine GoOps.nil ?_
  refine Go.seq ?_
  refine Go.seq ?_
  refine Go.region rfl ?_
  refine GoOps.q (v := .pointer p0) rfl rfl (by decide) (q_move rfl) ?_
  refine GoOps.q (v := .bool (Option.isNone p0)) rfl rfl (by decide) (q_eqlPn Try.underlying27 rfl rfl) ?_
  refine GoOps.nil ?_
  rcases bor (Option.isNone p0) with hc4 | hc4
  · have h := h.1 hc4
    refine Go.condT (btT rfl hc4) ?_
    refine Go.seq ?_
    refine Go.region rfl ?_
    refine GoOps.q (v := .agg ([.int .i64 0, .int .i64 0, .int .i64 0] : List Value).toArray) rfl rfl (by decide) (q_build (ps := []) (cs := [.int .i64 0, .int .i64 0, .int .i64 0]) places25 zero25 rfl rfl rfl) ?_
    obtain ⟨q6b, q6o, q6c, q6e, hq6a, hq6b, hq6l, hq6v, h⟩ := h
    refine op_none rfl rfl (do_store (vs := [.int .i64 0, .int .i64 0, .int .i64 0]) size25 (pta rfl hq6a) rfl rfl rfl hq6v hq6b hq6l ?_) 
    refine GoOps.nil ?_
    obtain ⟨x7, hx8, h⟩ := h
    exact Go.ret ⟨.inl rfl, _, _, DOk.nil, (resOkV1 Try.results23 (rv_cellA aggr25 rfl hx8)), ⟨_, rfl, h⟩⟩
  · have h := h.2 hc4
    refine Go.condF (btF rfl hc4) ?_
    refine Go.skip ?_
    refine Go.seq ?_
    refine Go.region rfl ?_
    refine GoOps.q (v := .pointer p0) rfl rfl (by decide) (q_move rfl) ?_
    obtain ⟨a9, ha10, h⟩ := h
    refine GoOps.q (v := .pointer (some a9)) rfl rfl (by decide) (q_nilCheck (ptn rfl ha10)) ?_
    refine GoOps.q (v := .pointer (some (a9.add 0))) rfl rfl (by decide) (q_fieldAddr foff51_0 rfl) ?_
    obtain ⟨x11, hx12, h⟩ := h
    refine GoOps.q (v := .agg ([.int .i64 x11.1, .int .i64 x11.2.1, .int .i64 x11.2.2] : List Value).toArray) rfl rfl (by decide) (q_loadA aggr25 rfl hx12) ?_
    obtain ⟨q14b, q14o, q14c, q14e, hq14a, hq14b, hq14l, hq14v, h⟩ := h
    refine op_none rfl rfl (do_store (vs := [.int .i64 x11.1, .int .i64 x11.2.1, .int .i64 x11.2.2]) size25 (pta rfl hq14a) rfl rfl rfl hq14v hq14b hq14l ?_) 
    refine GoOps.nil ?_
    obtain ⟨x15, hx16, h⟩ := h
    exact Go.ret ⟨.inl rfl, _, _, DOk.nil, (resOkV1 Try.results23 (rv_cellA aggr25 rfl hx16)), ⟨_, rfl, h⟩⟩

/-- keelson.geom.up -/
def geom_up (p0 : Int) (p1 : Int) (H : PH) (Q : Int → PH → Prop) : Prop :=
  mNe p1 <|
  Q (IntKind.wrap .i64 (Int.tdiv (IntKind.wrap .i64 ((IntKind.wrap .i64 (p0 + p1)) - 1)) p1)) H

set_option maxRecDepth 20000 in
set_option maxHeartbeats 1000000 in
theorem geom_up_s (p0 : Int) (p1 : Int) (H : PH) (Q : Int → PH → Prop) (h : geom_up p0 p1 H Q) :
    CallsH Try.prog 38 #[.int .i64 p0, .int .i64 p1] H (fun v H' => ∃ (r0 : Int), v = .int .i64 r0 ∧ Q r0 H') := by
  unfold geom_up at h
  refine callsH_of_go Try.func38 rfl Try.ntmps38 (Nat.le_of_ble_eq_true rfl) ?_
  refine Go.seq ?_
  refine Go.region rfl ?_
  refine GoOps.q (v := .int .i64 0) rfl rfl (by decide) (q_assign rfl) ?_
  refine GoOps.nil ?_
  refine Go.seq ?_
  refine Go.region rfl ?_
  refine GoOps.q (v := .int .i64 p0) rfl rfl (by decide) (q_move rfl) ?_
  refine GoOps.q (v := .int .i64 p1) rfl rfl (by decide) (q_move rfl) ?_
  refine GoOps.q (v := .int .i64 (IntKind.wrap .i64 (p0 + p1))) rfl rfl (by decide) (q_add rfl rfl) ?_
  refine GoOps.q (v := .int .i64 (IntKind.wrap .i64 ((IntKind.wrap .i64 (p0 + p1)) - 1))) rfl rfl (by decide) (q_sub rfl rfl) ?_
  refine GoOps.q (v := .int .i64 p1) rfl rfl (by decide) (q_move rfl) ?_
  obtain ⟨hn1, h⟩ := h
  refine GoOps.q (v := .int .i64 (IntKind.wrap .i64 (Int.tdiv (IntKind.wrap .i64 ((IntKind.wrap .i64 (p0 + p1)) - 1)) p1))) rfl rfl (by decide) (q_quo hn1 rfl rfl) ?_
  refine GoOps.q (v := .int .i64 (IntKind.wrap .i64 (Int.tdiv (IntKind.wrap .i64 ((IntKind.wrap .i64 (p0 + p1)) - 1)) p1))) rfl rfl (by decide) (q_assign rfl) ?_
  refine GoOps.nil ?_
  exact Go.ret ⟨.inl rfl, _, _, DOk.nil, (resOk1 Try.results38 rfl), ⟨_, rfl, h⟩⟩

/-- (*keelson.geom.Geom).Pages -/
def geom_Geom_Pages (p0 : Option Addr) (H : PH) (Q : Int → PH → Prop) : Prop :=
  geom_Geom_Config p0 H fun y2 H1 =>
  geom_up y2.1 15 H1 fun y4 H3 =>
  Q y4 H3

set_option maxRecDepth 20000 in
set_option maxHeartbeats 1000000 in
theorem geom_Geom_Pages_s (p0 : Option Addr) (H : PH) (Q : Int → PH → Prop) (h : geom_Geom_Pages p0 H Q) :
    CallsH Try.prog 20 #[.pointer p0] H (fun v H' => ∃ (r0 : Int), v = .int .i64 r0 ∧ Q r0 H') := by
  unfold geom_Geom_Pages at h
  refine callsH_of_go Try.func20 rfl Try.ntmps20 (Nat.le_of_ble_eq_true rfl) ?_
  refine Go.seq ?_
  refine Go.region rfl ?_
  refine GoOps.q (v := .int .i64 0) rfl rfl (by decide) (q_assign rfl) ?_
  refine GoOps.nil ?_
  refine Go.seq ?_
  refine Go.region rfl ?_
  refine GoOps.q (v := .pointer p0) rfl rfl (by decide) (q_move rfl) ?_
  refine call_dst rfl (by decide) body23 (geom_Geom_Config_s _ _ _ h) rfl ?_
  rintro _ H1 ⟨y2, rfl, h⟩
  refine GoOps.q (v := .int .i64 y2.1) rfl rfl (by decide) (q_field fis25_0 scalar3 rfl rfl) ?_
  refine call_dst rfl (by decide) body38 (geom_up_s _ _ _ _ h) rfl ?_
  rintro _ H3 ⟨y4, rfl, h⟩
  refine GoOps.q (v := .int .i64 y4) rfl rfl (by decide) (q_assign rfl) ?_
  refine GoOps.nil ?_
  exact Go.ret ⟨.inl rfl, _, _, DOk.nil, (resOk1 Try.results20 rfl), ⟨_, rfl, h⟩⟩

/-- (*keelson.geom.Geom).RegionLen -/
def geom_Geom_RegionLen (p0 : Option Addr) (H : PH) (Q : Int → PH → Prop) : Prop :=
  mIf (Option.isNone p0)
  (Q 0 H)
  (mNil p0 fun a2 =>
  mLd (.int .i64) H ((a2.add 0).add 1) fun x4 =>
  geom_up (IntKind.wrap .i64 (43 + (IntKind.wrap .i64 (5 * x4)))) 64 H fun y7 H6 =>
  Q y7 H6)

set_option maxRecDepth 20000 in
set_option maxHeartbeats 1000000 in
theorem geom_Geom_RegionLen_s (p0 : Option Addr) (H : PH) (Q : Int → PH → Prop) (h : geom_Geom_RegionLen p0 H Q) :
    CallsH Try.prog 19 #[.pointer p0] H (fun v H' => ∃ (r0 : Int), v = .int .i64 r0 ∧ Q r0 H') := by
  unfold geom_Geom_RegionLen at h
  refine callsH_of_go Try.func19 rfl Try.ntmps19 (Nat.le_of_ble_eq_true rfl) ?_
  refine Go.seq ?_
  refine Go.region rfl ?_
  refine GoOps.q (v := .int .i64 0) rfl rfl (by decide) (q_assign rfl) ?_
  refine GoOps.nil ?_
  refine Go.seq ?_
  refine Go.seq ?_
  refine Go.region rfl ?_
  refine GoOps.q (v := .pointer p0) rfl rfl (by decide) (q_move rfl) ?_
  refine GoOps.q (v := .bool (Option.isNone p0)) rfl rfl (by decide) (q_eqlPn Try.underlying27 rfl rfl) ?_
  refine GoOps.nil ?_
  rcases bor (Option.isNone p0) with hc1 | hc1
  · have h := h.1 hc1
    refine Go.condT (btT rfl hc1) ?_
    refine Go.seq ?_
    refine Go.region rfl ?_
    refine GoOps.q (v := .int .i64 0) rfl rfl (by decide) (q_assign rfl) ?_
    refine GoOps.nil ?_
    exact Go.ret ⟨.inl rfl, _, _, DOk.nil, (resOk1 Try.results19 rfl), ⟨_, rfl, h⟩⟩
  · have h := h.2 hc1
    refine Go.condF (btF rfl hc1) ?_
    refine Go.skip ?_
    refine Go.seq ?_
    refine Go.region rfl ?_
    refine GoOps.q (v := .pointer p0) rfl rfl (by decide) (q_move rfl) ?_
    obtain ⟨a2, ha3, h⟩ := h
    refine GoOps.q (v := .pointer (some a2)) rfl rfl (by decide) (q_nilCheck (ptn rfl ha3)) ?_
    refine GoOps.q (v := .pointer (some (a2.add 0))) rfl rfl (by decide) (q_fieldAddr foff51_0 rfl) ?_
    refine GoOps.q (v := .pointer (some ((a2.add 0).add 1))) rfl rfl (by decide) (q_fieldAddr foff25_1 rfl) ?_
    obtain ⟨x4, hx5, h⟩ := h
    refine GoOps.q (v := .int .i64 x4) rfl rfl (by decide) (q_load scalar3 rfl hx5) ?_
    refine GoOps.q (v := .int .i64 (IntKind.wrap .i64 (5 * x4))) rfl rfl (by decide) (q_mul rfl rfl) ?_
    refine GoOps.q (v := .int .i64 (IntKind.wrap .i64 (43 + (IntKind.wrap .i64 (5 * x4))))) rfl rfl (by decide) (q_add rfl rfl) ?_
    refine call_dst rfl (by decide) body38 (geom_up_s _ _ _ _ h) rfl ?_
    rintro _ H6 ⟨y7, rfl, h⟩
    refine GoOps.q (v := .int .i64 y7) rfl rfl (by decide) (q_assign rfl) ?_
    refine GoOps.nil ?_
    exact Go.ret ⟨.inl rfl, _, _, DOk.nil, (resOk1 Try.results19 rfl), ⟨_, rfl, h⟩⟩

/-- (*keelson.geom.Geom).Has -/
def geom_Geom_Has (p0 : Option Addr) (p1 : Int) (H : PH) (Q : Bool → PH → Prop) : Prop :=
  mJoin (fun (s2 : Bool) (H4 : PH) =>
  Q s2 H4)
  fun j3 =>
  mIf (!(Option.isNone p0))
  (mNil p0 fun a6 =>
  mLd (.int .i64) H ((a6.add 0).add 1) fun x8 =>
  geom_within p1 0 (IntKind.wrap .i64 (x8 - 1)) H fun y11 H10 =>
  j3 y11 H10)
  (j3 false H)

set_option maxRecDepth 20000 in
set_option maxHeartbeats 1000000 in
theorem geom_Geom_Has_s (p0 : Option Addr) (p1 : Int) (H : PH) (Q : Bool → PH → Prop) (h : geom_Geom_Has p0 p1 H Q) :
    CallsH Try.prog 36 #[.pointer p0, .int .i64 p1] H (fun v H' => ∃ (r0 : Bool), v = .bool r0 ∧ Q r0 H') := by
  unfold geom_Geom_Has at h
  refine callsH_of_go Try.func36 rfl Try.ntmps36 (Nat.le_of_ble_eq_true rfl) ?_
  refine Go.seq ?_
  refine Go.region rfl ?_
  refine GoOps.q (v := .bool false) rfl rfl (by decide) (q_assign rfl) ?_
  refine GoOps.nil ?_
  refine Go.seq ?_
  refine Go.region rfl ?_
  refine GoOps.q (v := .pointer p0) rfl rfl (by decide) (q_move rfl) ?_
  refine GoOps.q (v := .bool (!(Option.isNone p0))) rfl rfl (by decide) (q_neqPn Try.underlying27 rfl rfl) ?_
  refine GoOps.q (v := .bool (!(Option.isNone p0))) rfl rfl (by decide) (q_move rfl) ?_
  refine join_ops 9 (fun ρ (s2 : Bool) => ρ 16 = .bool s2) h ?_ ?_ <;> clear h
  · intro s2 H4 ρ h hE
    have e5_16 := hE
    refine GoOps.q (v := .bool s2) rfl rfl (by decide) (q_assign e5_16) ?_
    refine GoOps.nil ?_
    exact Go.ret ⟨.inl rfl, _, _, DOk.nil, (resOk1 Try.results36 rfl), ⟨_, rfl, h⟩⟩
  · intro j3 hj3 h
    rcases bor (!(Option.isNone p0)) with hc1 | hc1
    · have h := h.1 hc1
      refine GoOps.q (v := .int .i64 p1) (want_yes rfl rfl rfl hc1) rfl (by decide) (q_move rfl) ?_
      refine GoOps.q (v := .pointer p0) (want_yes rfl rfl rfl hc1) rfl (by decide) (q_move rfl) ?_
      obtain ⟨a6, ha7, h⟩ := h
      refine GoOps.q (v := .pointer (some a6)) (want_yes rfl rfl rfl hc1) rfl (by decide) (q_nilCheck (ptn rfl ha7)) ?_
      refine GoOps.q (v := .pointer (some (a6.add 0))) (want_yes rfl rfl rfl hc1) rfl (by decide) (q_fieldAddr foff51_0 rfl) ?_
      refine GoOps.q (v := .pointer (some ((a6.add 0).add 1))) (want_yes rfl rfl rfl hc1) rfl (by decide) (q_fieldAddr foff25_1 rfl) ?_
      obtain ⟨x8, hx9, h⟩ := h
      refine GoOps.q (v := .int .i64 x8) (want_yes rfl rfl rfl hc1) rfl (by decide) (q_load scalar3 rfl hx9) ?_
      refine GoOps.q (v := .int .i64 (IntKind.wrap .i64 (x8 - 1))) (want_yes rfl rfl rfl hc1) rfl (by decide) (q_sub rfl rfl) ?_
      refine call_dst (want_yes rfl rfl rfl hc1) (by decide) body34 (geom_within_s _ _ _ _ _ h) rfl ?_
      rintro _ H10 ⟨y11, rfl, h⟩
      refine GoOps.q (v := .bool y11) rfl rfl (by decide) (q_pickT (btT rfl hc1) rfl) ?_
      exact hj3 _ _ _ h rfl
    · have h := h.2 hc1
      refine no_dst (want_no rfl rfl rfl hc1) rfl (by decide) ?_
      refine no_dst (want_no rfl rfl rfl hc1) rfl (by decide) ?_
      refine no_dst (want_no rfl rfl rfl hc1) rfl (by decide) ?_
      refine no_dst (want_no rfl rfl rfl hc1) rfl (by decide) ?_
      refine no_dst (want_no rfl rfl rfl hc1) rfl (by decide) ?_
      refine no_dst (want_no rfl rfl rfl hc1) rfl (by decide) ?_
      refine no_dst (want_no rfl rfl rfl hc1) rfl (by decide) ?_
      refine no_dst (want_no rfl rfl rfl hc1) rfl (by decide) ?_
      refine GoOps.q (v := .bool false) rfl rfl (by decide) (q_pickF (btF rfl hc1) rfl) ?_
      exact hj3 _ _ _ h rfl

/-- (*keelson.geom.Geom).segs -/
def geom_Geom_segs (p0 : Option Addr) (H : PH) (Q : Int → PH → Prop) : Prop :=
  geom_Geom_RegionLen p0 H fun y2 H1 =>
  geom_Geom_Pages p0 H1 fun y4 H3 =>
  Q (IntKind.wrap .i64 (2 + (IntKind.wrap .i64 (2 * (IntKind.wrap .i64 (y2 + (IntKind.wrap .i64 (2 * y4)))))))) H3

set_option maxRecDepth 20000 in
set_option maxHeartbeats 1000000 in
theorem geom_Geom_segs_s (p0 : Option Addr) (H : PH) (Q : Int → PH → Prop) (h : geom_Geom_segs p0 H Q) :
    CallsH Try.prog 37 #[.pointer p0] H (fun v H' => ∃ (r0 : Int), v = .int .i64 r0 ∧ Q r0 H') := by
  unfold geom_Geom_segs at h
  refine callsH_of_go Try.func37 rfl Try.ntmps37 (Nat.le_of_ble_eq_true rfl) ?_
  refine Go.seq ?_
  refine Go.region rfl ?_
  refine GoOps.q (v := .int .i64 0) rfl rfl (by decide) (q_assign rfl) ?_
  refine GoOps.nil ?_
  refine Go.seq ?_
  refine Go.region rfl ?_
  refine GoOps.q (v := .pointer p0) rfl rfl (by decide) (q_move rfl) ?_
  refine call_dst rfl (by decide) body19 (geom_Geom_RegionLen_s _ _ _ h) rfl ?_
  rintro _ H1 ⟨y2, rfl, h⟩
  refine GoOps.q (v := .pointer p0) rfl rfl (by decide) (q_move rfl) ?_
  refine call_dst rfl (by decide) body20 (geom_Geom_Pages_s _ _ _ h) rfl ?_
  rintro _ H3 ⟨y4, rfl, h⟩
  refine GoOps.q (v := .int .i64 (IntKind.wrap .i64 (2 * y4))) rfl rfl (by decide) (q_mul rfl rfl) ?_
  refine GoOps.q (v := .int .i64 (IntKind.wrap .i64 (y2 + (IntKind.wrap .i64 (2 * y4))))) rfl rfl (by decide) (q_add rfl rfl) ?_
  refine GoOps.q (v := .int .i64 (IntKind.wrap .i64 (2 * (IntKind.wrap .i64 (y2 + (IntKind.wrap .i64 (2 * y4))))))) rfl rfl (by decide) (q_mul rfl rfl) ?_
  refine GoOps.q (v := .int .i64 (IntKind.wrap .i64 (2 + (IntKind.wrap .i64 (2 * (IntKind.wrap .i64 (y2 + (IntKind.wrap .i64 (2 * y4))))))))) rfl rfl (by decide) (q_add rfl rfl) ?_
  refine GoOps.q (v := .int .i64 (IntKind.wrap .i64 (2 + (IntKind.wrap .i64 (2 * (IntKind.wrap .i64 (y2 + (IntKind.wrap .i64 (2 * y4))))))))) rfl rfl (by decide) (q_assign rfl) ?_
  refine GoOps.nil ?_
  exact Go.ret ⟨.inl rfl, _, _, DOk.nil, (resOk1 Try.results37 rfl), ⟨_, rfl, h⟩⟩

/-- (*keelson.geom.Geom).Seg -/
def geom_Geom_Seg (p0 : Option Addr) (p1 : Int) (H : PH) (Q : Int → PH → Prop) : Prop :=
  geom_Geom_Has p0 p1 H fun y2 H1 =>
  mIf (!y2)
  (Q (-1) H1)
  (mNil p0 fun a4 =>
  mLd (.int .i64) H1 ((a4.add 0).add 2) fun x6 =>
  geom_Geom_segs p0 H1 fun y9 H8 =>
  mSame H8 ((a4.add 0).add 2) (.int .i64 x6) <|
  Q (IntKind.wrap .i64 (y9 + (IntKind.wrap .i64 (p1 * x6)))) H8)

set_option maxRecDepth 20000 in
set_option maxHeartbeats 1000000 in
theorem geom_Geom_Seg_s (p0 : Option Addr) (p1 : Int) (H : PH) (Q : Int → PH → Prop) (h : geom_Geom_Seg p0 p1 H Q) :
    CallsH Try.prog 13 #[.pointer p0, .int .i64 p1] H (fun v H' => ∃ (r0 : Int), v = .int .i64 r0 ∧ Q r0 H') := by
  unfold geom_Geom_Seg at h
  refine callsH_of_go Try.func13 rfl Try.ntmps13 (Nat.le_of_ble_eq_true rfl) ?_
  refine Go.seq ?_
  refine Go.region rfl ?_
  refine GoOps.q (v := .int .i64 0) rfl rfl (by decide) (q_assign rfl) ?_
  refine GoOps.nil ?_
  refine Go.seq ?_
  refine Go.seq ?_
  refine Go.region rfl ?_
  refine GoOps.q (v := .pointer p0) rfl rfl (by decide) (q_move rfl) ?_
  refine GoOps.q (v := .int .i64 p1) rfl rfl (by decide) (q_move rfl) ?_
  refine call_dst rfl (by decide) body36 (geom_Geom_Has_s _ _ _ _ h) rfl ?_
  rintro _ H1 ⟨y2, rfl, h⟩
  refine GoOps.q (v := .bool (!y2)) rfl rfl (by decide) (q_not rfl) ?_
  refine GoOps.nil ?_
  rcases bor (!y2) with hc3 | hc3
  · have h := h.1 hc3
    refine Go.condT (btT rfl hc3) ?_
    refine Go.seq ?_
    refine Go.region rfl ?_
    refine GoOps.q (v := .int .i64 (-1)) rfl rfl (by decide) (q_assign rfl) ?_
    refine GoOps.nil ?_
    exact Go.ret ⟨.inl rfl, _, _, DOk.nil, (resOk1 Try.results13 rfl), ⟨_, rfl, h⟩⟩
  · have h := h.2 hc3
    refine Go.condF (btF rfl hc3) ?_
    refine Go.skip ?_
    refine Go.seq ?_
    refine Go.draw mixed ?_
    refine plan_pure (i := 0) (d := 9) (S2 := 1) (v := .pointer p0) rfl (by decide +kernel) rfl (q_move rfl) ?_
    refine plan_pure (i := 2) (d := 11) (S2 := 5) (v := .int .i64 p1) rfl (by decide +kernel) rfl (q_move rfl) ?_
    refine plan_pure (i := 3) (d := 12) (S2 := 13) (v := .pointer p0) rfl (by decide +kernel) rfl (q_move rfl) ?_
    obtain ⟨a4, ha5, h⟩ := h
    refine plan_pure (i := 4) (d := 13) (S2 := 29) (v := .pointer (some a4)) rfl (by decide +kernel) rfl (q_nilCheck (ptn rfl ha5)) ?_
    refine plan_pure (i := 5) (d := 14) (S2 := 61) (v := .pointer (some (a4.add 0))) rfl (by decide +kernel) rfl (q_fieldAddr foff51_0 rfl) ?_
    refine plan_pure (i := 6) (d := 15) (S2 := 125) (v := .pointer (some ((a4.add 0).add 2))) rfl (by decide +kernel) rfl (q_fieldAddr foff25_2 rfl) ?_
    obtain ⟨x6, hx7, h⟩ := h
    refine plan_load (i := 7) (d := 16) (S2 := 253) (v := .int .i64 x6) rfl (by decide +kernel) rfl (q_load scalar3 rfl hx7) ?_
    refine plan_pure (i := 8) (d := 17) (S2 := 509) (v := .int .i64 (IntKind.wrap .i64 (p1 * x6))) rfl (by decide +kernel) rfl (q_mul rfl rfl) ?_
    refine plan_one (j := 1) (S2 := 511) (by decide +kernel) rfl (by decide) rfl ?_
    refine do_call2 body37 (geom_Geom_segs_s _ _ _ h) rfl ?_
    rintro _ H8 ⟨y9, rfl, h⟩
    obtain ⟨hr10, h⟩ := h
    refine ⟨⟨.inr ⟨_, _, rfl, rfl, q_load scalar3 rfl hr10⟩, trivial⟩, ?_⟩
    refine plan_pure (i := 9) (d := 18) (S2 := 1023) (v := .int .i64 (IntKind.wrap .i64 (y9 + (IntKind.wrap .i64 (p1 * x6))))) rfl (by decide +kernel) rfl (q_add rfl rfl) ?_
    refine plan_pure (i := 10) (d := 4) (S2 := 2047) (v := .int .i64 (IntKind.wrap .i64 (y9 + (IntKind.wrap .i64 (p1 * x6))))) rfl (by decide +kernel) rfl (q_assign rfl) ?_
    refine plan_done (by decide +kernel) ?_
    exact Go.ret ⟨.inl rfl, _, _, DOk.nil, (resOk1 Try.results13 rfl), ⟨_, rfl, h⟩⟩

/-- (*keelson.geom.Geom).Sectors -/
def geom_Geom_Sectors (p0 : Option Addr) (H : PH) (Q : Int → PH → Prop) : Prop :=
  mIf (Option.isNone p0)
  (Q 0 H)
  (mNil p0 fun a2 =>
  mLd (.int .i64) H ((a2.add 0).add 1) fun x4 =>
  mNil p0 fun a6 =>
  mLd (.int .i64) H ((a6.add 0).add 2) fun x8 =>
  geom_Geom_segs p0 H fun y11 H10 =>
  mSame H10 ((a6.add 0).add 2) (.int .i64 x8) <|
  mSame H10 ((a2.add 0).add 1) (.int .i64 x4) <|
  Q (IntKind.wrap .i64 (y11 + (IntKind.wrap .i64 (x4 * x8)))) H10)

set_option maxRecDepth 20000 in
set_option maxHeartbeats 1000000 in
theorem geom_Geom_Sectors_s (p0 : Option Addr) (H : PH) (Q : Int → PH → Prop) (h : geom_Geom_Sectors p0 H Q) :
    CallsH Try.prog 15 #[.pointer p0] H (fun v H' => ∃ (r0 : Int), v = .int .i64 r0 ∧ Q r0 H') := by
  unfold geom_Geom_Sectors at h
  refine callsH_of_go Try.func15 rfl Try.ntmps15 (Nat.le_of_ble_eq_true rfl) ?_
  refine Go.seq ?_
  refine Go.region rfl ?_
  refine GoOps.q (v := .int .i64 0) rfl rfl (by decide) (q_assign rfl) ?_
  refine GoOps.nil ?_
  refine Go.seq ?_
  refine Go.seq ?_
  refine Go.region rfl ?_
  refine GoOps.q (v := .pointer p0) rfl rfl (by decide) (q_move rfl) ?_
  refine GoOps.q (v := .bool (Option.isNone p0)) rfl rfl (by decide) (q_eqlPn Try.underlying27 rfl rfl) ?_
  refine GoOps.nil ?_
  rcases bor (Option.isNone p0) with hc1 | hc1
  · have h := h.1 hc1
    refine Go.condT (btT rfl hc1) ?_
    refine Go.seq ?_
    refine Go.region rfl ?_
    refine GoOps.q (v := .int .i64 0) rfl rfl (by decide) (q_assign rfl) ?_
    refine GoOps.nil ?_
    exact Go.ret ⟨.inl rfl, _, _, DOk.nil, (resOk1 Try.results15 rfl), ⟨_, rfl, h⟩⟩
  · have h := h.2 hc1
    refine Go.condF (btF rfl hc1) ?_
    refine Go.skip ?_
    refine Go.seq ?_
    refine Go.draw mixed ?_
    refine plan_pure (i := 0) (d := 5) (S2 := 1) (v := .pointer p0) rfl (by decide +kernel) rfl (q_move rfl) ?_
    refine plan_pure (i := 2) (d := 7) (S2 := 5) (v := .pointer p0) rfl (by decide +kernel) rfl (q_move rfl) ?_
    obtain ⟨a2, ha3, h⟩ := h
    refine plan_pure (i := 3) (d := 8) (S2 := 13) (v := .pointer (some a2)) rfl (by decide +kernel) rfl (q_nilCheck (ptn rfl ha3)) ?_
    refine plan_pure (i := 4) (d := 9) (S2 := 29) (v := .pointer (some (a2.add 0))) rfl (by decide +kernel) rfl (q_fieldAddr foff51_0 rfl) ?_
    refine plan_pure (i := 5) (d := 10) (S2 := 61) (v := .pointer (some ((a2.add 0).add 1))) rfl (by decide +kernel) rfl (q_fieldAddr foff25_1 rfl) ?_
    obtain ⟨x4, hx5, h⟩ := h
    refine plan_load (i := 6) (d := 11) (S2 := 125) (v := .int .i64 x4) rfl (by decide +kernel) rfl (q_load scalar3 rfl hx5) ?_
    refine plan_pure (i := 7) (d := 12) (S2 := 253) (v := .pointer p0) rfl (by decide +kernel) rfl (q_move rfl) ?_
    obtain ⟨a6, ha7, h⟩ := h
    refine plan_pure (i := 8) (d := 13) (S2 := 509) (v := .pointer (some a6)) rfl (by decide +kernel) rfl (q_nilCheck (ptn rfl ha7)) ?_
    refine plan_pure (i := 9) (d := 14) (S2 := 1021) (v := .pointer (some (a6.add 0))) rfl (by decide +kernel) rfl (q_fieldAddr foff51_0 rfl) ?_
    refine plan_pure (i := 10) (d := 15) (S2 := 2045) (v := .pointer (some ((a6.add 0).add 2))) rfl (by decide +kernel) rfl (q_fieldAddr foff25_2 rfl) ?_
    obtain ⟨x8, hx9, h⟩ := h
    refine plan_load (i := 11) (d := 16) (S2 := 4093) (v := .int .i64 x8) rfl (by decide +kernel) rfl (q_load scalar3 rfl hx9) ?_
    refine plan_pure (i := 12) (d := 17) (S2 := 8189) (v := .int .i64 (IntKind.wrap .i64 (x4 * x8))) rfl (by decide +kernel) rfl (q_mul rfl rfl) ?_
    refine plan_one (j := 1) (S2 := 8191) (by decide +kernel) rfl (by decide) rfl ?_
    refine do_call2 body37 (geom_Geom_segs_s _ _ _ h) rfl ?_
    rintro _ H10 ⟨y11, rfl, h⟩
    obtain ⟨hr12, h⟩ := h
    obtain ⟨hr13, h⟩ := h
    refine ⟨⟨.inr ⟨_, _, rfl, rfl, q_load scalar3 rfl hr12⟩, .inr ⟨_, _, rfl, rfl, q_load scalar3 rfl hr13⟩, trivial⟩, ?_⟩
    refine plan_pure (i := 13) (d := 18) (S2 := 16383) (v := .int .i64 (IntKind.wrap .i64 (y11 + (IntKind.wrap .i64 (x4 * x8))))) rfl (by decide +kernel) rfl (q_add rfl rfl) ?_
    refine plan_pure (i := 14) (d := 2) (S2 := 32767) (v := .int .i64 (IntKind.wrap .i64 (y11 + (IntKind.wrap .i64 (x4 * x8))))) rfl (by decide +kernel) rfl (q_assign rfl) ?_
    refine plan_done (by decide +kernel) ?_
    exact Go.ret ⟨.inl rfl, _, _, DOk.nil, (resOk1 Try.results15 rfl), ⟨_, rfl, h⟩⟩

/-- (*keelson.geom.Geom).Half -/
def geom_Geom_Half (p0 : Option Addr) (H : PH) (Q : Int → PH → Prop) : Prop :=
  mIf (Option.isNone p0)
  (Q 0 H)
  (mNil p0 fun a2 =>
  mLd (.int .i64) H ((a2.add 0).add 2) fun x4 =>
  Q (IntKind.wrap .i64 (Int.tdiv (IntKind.wrap .i64 (x4 - 2)) 2)) H)

set_option maxRecDepth 20000 in
set_option maxHeartbeats 1000000 in
theorem geom_Geom_Half_s (p0 : Option Addr) (H : PH) (Q : Int → PH → Prop) (h : geom_Geom_Half p0 H Q) :
    CallsH Try.prog 11 #[.pointer p0] H (fun v H' => ∃ (r0 : Int), v = .int .i64 r0 ∧ Q r0 H') := by
  unfold geom_Geom_Half at h
  refine callsH_of_go Try.func11 rfl Try.ntmps11 (Nat.le_of_ble_eq_true rfl) ?_
  refine Go.seq ?_
  refine Go.region rfl ?_
  refine GoOps.q (v := .int .i64 0) rfl rfl (by decide) (q_assign rfl) ?_
  refine GoOps.nil ?_
  refine Go.seq ?_
  refine Go.seq ?_
  refine Go.region rfl ?_
  refine GoOps.q (v := .pointer p0) rfl rfl (by decide) (q_move rfl) ?_
  refine GoOps.q (v := .bool (Option.isNone p0)) rfl rfl (by decide) (q_eqlPn Try.underlying27 rfl rfl) ?_
  refine GoOps.nil ?_
  rcases bor (Option.isNone p0) with hc1 | hc1
  · have h := h.1 hc1
    refine Go.condT (btT rfl hc1) ?_
    refine Go.seq ?_
    refine Go.region rfl ?_
    refine GoOps.q (v := .int .i64 0) rfl rfl (by decide) (q_assign rfl) ?_
    refine GoOps.nil ?_
    exact Go.ret ⟨.inl rfl, _, _, DOk.nil, (resOk1 Try.results11 rfl), ⟨_, rfl, h⟩⟩
  · have h := h.2 hc1
    refine Go.condF (btF rfl hc1) ?_
    refine Go.skip ?_
    refine Go.seq ?_
    refine Go.region rfl ?_
    refine GoOps.q (v := .pointer p0) rfl rfl (by decide) (q_move rfl) ?_
    obtain ⟨a2, ha3, h⟩ := h
    refine GoOps.q (v := .pointer (some a2)) rfl rfl (by decide) (q_nilCheck (ptn rfl ha3)) ?_
    refine GoOps.q (v := .pointer (some (a2.add 0))) rfl rfl (by decide) (q_fieldAddr foff51_0 rfl) ?_
    refine GoOps.q (v := .pointer (some ((a2.add 0).add 2))) rfl rfl (by decide) (q_fieldAddr foff25_2 rfl) ?_
    obtain ⟨x4, hx5, h⟩ := h
    refine GoOps.q (v := .int .i64 x4) rfl rfl (by decide) (q_load scalar3 rfl hx5) ?_
    refine GoOps.q (v := .int .i64 (IntKind.wrap .i64 (x4 - 2))) rfl rfl (by decide) (q_sub rfl rfl) ?_
    refine GoOps.q (v := .int .i64 (IntKind.wrap .i64 (Int.tdiv (IntKind.wrap .i64 (x4 - 2)) 2))) rfl rfl (by decide) (q_quo (by decide) rfl rfl) ?_
    refine GoOps.q (v := .int .i64 (IntKind.wrap .i64 (Int.tdiv (IntKind.wrap .i64 (x4 - 2)) 2))) rfl rfl (by decide) (q_assign rfl) ?_
    refine GoOps.nil ?_
    exact Go.ret ⟨.inl rfl, _, _, DOk.nil, (resOk1 Try.results11 rfl), ⟨_, rfl, h⟩⟩

/-- (*keelson.geom.Geom).Share -/
def geom_Geom_Share (p0 : Option Addr) (H : PH) (Q : Int → PH → Prop) : Prop :=
  mIf (Option.isNone p0)
  (Q 0 H)
  (mNil p0 fun a2 =>
  mLd (.int .i64) H ((a2.add 0).add 1) fun x4 =>
  geom_Geom_Half p0 H fun y7 H6 =>
  mSame H6 ((a2.add 0).add 1) (.int .i64 x4) <|
  Q (IntKind.wrap .i64 ((IntKind.wrap .i64 ((IntKind.wrap .i64 ((IntKind.wrap .i64 (x4 - 2)) - 1)) * (IntKind.wrap .i64 (y7 + 1)))) - 1)) H6)

set_option maxRecDepth 20000 in
set_option maxHeartbeats 1000000 in
theorem geom_Geom_Share_s (p0 : Option Addr) (H : PH) (Q : Int → PH → Prop) (h : geom_Geom_Share p0 H Q) :
    CallsH Try.prog 12 #[.pointer p0] H (fun v H' => ∃ (r0 : Int), v = .int .i64 r0 ∧ Q r0 H') := by
  unfold geom_Geom_Share at h
  refine callsH_of_go Try.func12 rfl Try.ntmps12 (Nat.le_of_ble_eq_true rfl) ?_
  refine Go.seq ?_
  refine Go.region rfl ?_
  refine GoOps.q (v := .int .i64 0) rfl rfl (by decide) (q_assign rfl) ?_
  refine GoOps.nil ?_
  refine Go.seq ?_
  refine Go.seq ?_
  refine Go.region rfl ?_
  refine GoOps.q (v := .pointer p0) rfl rfl (by decide) (q_move rfl) ?_
  refine GoOps.q (v := .bool (Option.isNone p0)) rfl rfl (by decide) (q_eqlPn Try.underlying27 rfl rfl) ?_
  refine GoOps.nil ?_
  rcases bor (Option.isNone p0) with hc1 | hc1
  · have h := h.1 hc1
    refine Go.condT (btT rfl hc1) ?_
    refine Go.seq ?_
    refine Go.region rfl ?_
    refine GoOps.q (v := .int .i64 0) rfl rfl (by decide) (q_assign rfl) ?_
    refine GoOps.nil ?_
    exact Go.ret ⟨.inl rfl, _, _, DOk.nil, (resOk1 Try.results12 rfl), ⟨_, rfl, h⟩⟩
  · have h := h.2 hc1
    refine Go.condF (btF rfl hc1) ?_
    refine Go.skip ?_
    refine Go.seq ?_
    refine Go.draw mixed ?_
    refine plan_pure (i := 0) (d := 5) (S2 := 1) (v := .pointer p0) rfl (by decide +kernel) rfl (q_move rfl) ?_
    obtain ⟨a2, ha3, h⟩ := h
    refine plan_pure (i := 1) (d := 6) (S2 := 3) (v := .pointer (some a2)) rfl (by decide +kernel) rfl (q_nilCheck (ptn rfl ha3)) ?_
    refine plan_pure (i := 2) (d := 7) (S2 := 7) (v := .pointer (some (a2.add 0))) rfl (by decide +kernel) rfl (q_fieldAddr foff51_0 rfl) ?_
    refine plan_pure (i := 3) (d := 8) (S2 := 15) (v := .pointer (some ((a2.add 0).add 1))) rfl (by decide +kernel) rfl (q_fieldAddr foff25_1 rfl) ?_
    obtain ⟨x4, hx5, h⟩ := h
    refine plan_load (i := 4) (d := 9) (S2 := 31) (v := .int .i64 x4) rfl (by decide +kernel) rfl (q_load scalar3 rfl hx5) ?_
    refine plan_pure (i := 5) (d := 10) (S2 := 63) (v := .int .i64 (IntKind.wrap .i64 (x4 - 2))) rfl (by decide +kernel) rfl (q_sub rfl rfl) ?_
    refine plan_pure (i := 6) (d := 11) (S2 := 127) (v := .int .i64 (IntKind.wrap .i64 ((IntKind.wrap .i64 (x4 - 2)) - 1))) rfl (by decide +kernel) rfl (q_sub rfl rfl) ?_
    refine plan_pure (i := 7) (d := 12) (S2 := 255) (v := .pointer p0) rfl (by decide +kernel) rfl (q_move rfl) ?_
    refine plan_one (j := 8) (S2 := 511) (by decide +kernel) rfl (by decide) rfl ?_
    refine do_call2 body11 (geom_Geom_Half_s _ _ _ h) rfl ?_
    rintro _ H6 ⟨y7, rfl, h⟩
    obtain ⟨hr8, h⟩ := h
    refine ⟨⟨.inr ⟨_, _, rfl, rfl, q_load scalar3 rfl hr8⟩, trivial⟩, ?_⟩
    refine plan_pure (i := 9) (d := 14) (S2 := 1023) (v := .int .i64 (IntKind.wrap .i64 (y7 + 1))) rfl (by decide +kernel) rfl (q_add rfl rfl) ?_
    refine plan_pure (i := 10) (d := 15) (S2 := 2047) (v := .int .i64 (IntKind.wrap .i64 ((IntKind.wrap .i64 ((IntKind.wrap .i64 (x4 - 2)) - 1)) * (IntKind.wrap .i64 (y7 + 1))))) rfl (by decide +kernel) rfl (q_mul rfl rfl) ?_
    refine plan_pure (i := 11) (d := 16) (S2 := 4095) (v := .int .i64 (IntKind.wrap .i64 ((IntKind.wrap .i64 ((IntKind.wrap .i64 ((IntKind.wrap .i64 (x4 - 2)) - 1)) * (IntKind.wrap .i64 (y7 + 1)))) - 1))) rfl (by decide +kernel) rfl (q_sub rfl rfl) ?_
    refine plan_pure (i := 12) (d := 2) (S2 := 8191) (v := .int .i64 (IntKind.wrap .i64 ((IntKind.wrap .i64 ((IntKind.wrap .i64 ((IntKind.wrap .i64 (x4 - 2)) - 1)) * (IntKind.wrap .i64 (y7 + 1)))) - 1))) rfl (by decide +kernel) rfl (q_assign rfl) ?_
    refine plan_done (by decide +kernel) ?_
    exact Go.ret ⟨.inl rfl, _, _, DOk.nil, (resOk1 Try.results12 rfl), ⟨_, rfl, h⟩⟩

/-- keelson.keelsonlaw4.awake -/
def keelsonlaw4_awake (H : PH) (Q : Bool → PH → Prop) : Prop :=
  geom_New (20, 8, 24) H fun y2 y3 H1 =>
  geom_New (65, 8, 24) H1 fun y5 y6 H4 =>
  mJoin (fun (s8 : Bool) (H10 : PH) =>
  mJoin (fun (s13 : Bool) (H15 : PH) =>
  mJoin (fun (s18 : Bool) (H20 : PH) =>
  mJoin (fun (s23 : Bool) (H25 : PH) =>
  mJoin (fun (s28 : Bool) (H30 : PH) =>
  mJoin (fun (s33 : Bool) (H35 : PH) =>
  mJoin (fun (s38 : Bool) (H40 : PH) =>
  mJoin (fun (s43 : Bool) (H45 : PH) =>
  mJoin (fun (s48 : Bool) (H50 : PH) =>
  Q s48 H50)
  fun j49 =>
  mIf s43
  (geom_Geom_Sectors none H45 fun y53 H52 =>
  j49 (y53 == 0) H52)
  (j49 false H45))
  fun j44 =>
  mIf s38
  (geom_Geom_Seg none 0 H40 fun y55 H54 =>
  j44 (y55 == (-1)) H54)
  (j44 false H40))
  fun j39 =>
  mIf s33
  (geom_Geom_Share y2 H35 fun y57 H56 =>
  j39 (y57 == 59) H56)
  (j39 false H35))
  fun j34 =>
  mIf s28
  (geom_Geom_Sectors y2 H30 fun y59 H58 =>
  j34 (y59 == 206) H58)
  (j34 false H30))
  fun j29 =>
  mIf s23
  (geom_Geom_Seg y2 0 H25 fun y61 H60 =>
  j29 (y61 == 14) H60)
  (j29 false H25))
  fun j24 =>
  mIf s18
  (geom_Geom_RegionLen y2 H20 fun y63 H62 =>
  j24 (y63 == 2) H62)
  (j24 false H20))
  fun j19 =>
  mIf s13
  (geom_Geom_Pages y2 H15 fun y65 H64 =>
  j19 (y65 == 2) H64)
  (j19 false H15))
  fun j14 =>
  mIf s8
  (j14 (y6 == 1) H10)
  (j14 false H10))
  fun j9 =>
  mIf (y3 == 0)
  (j9 (!(Option.isNone y2)) H4)
  (j9 false H4)

set_option maxRecDepth 20000 in
set_option maxHeartbeats 1000000 in
theorem keelsonlaw4_awake_s (H : PH) (Q : Bool → PH → Prop) (h : keelsonlaw4_awake H Q) :
    CallsH Try.prog 9 #[] H (fun v H' => ∃ (r0 : Bool), v = .bool r0 ∧ Q r0 H') := by
  unfold keelsonlaw4_awake at h
  refine callsH_of_go Try.func9 rfl Try.ntmps9 (Nat.le_of_ble_eq_true rfl) ?_
  refine Go.seq ?_
  refine Go.region rfl ?_
  refine GoOps.q (v := .bool false) rfl rfl (by decide) (q_assign rfl) ?_
  refine GoOps.nil ?_
  refine Go.seq ?_
  refine Go.region rfl ?_
  refine GoOps.q (v := .agg ([.int .i64 20, .int .i64 8, .int .i64 24] : List Value).toArray) rfl rfl (by decide) (q_build (ps := [(0, .int .i64 20), (1, .int .i64 8), (2, .int .i64 24)]) (cs := [.int .i64 20, .int .i64 8, .int .i64 24]) places25 zero25 rfl rfl rfl) ?_
  refine call_dst rfl (by decide) body8 (geom_New_s _ _ _ h) rfl ?_
  rintro _ H1 ⟨y2, y3, rfl, h⟩
  refine GoOps.q (v := .tuple #[.pointer y2, .int .i64 y3]) rfl rfl (by decide) (q_move rfl) ?_
  refine GoOps.q (v := .pointer y2) rfl rfl (by decide) (q_extract rfl rfl) ?_
  refine GoOps.q (v := .int .i64 y3) rfl rfl (by decide) (q_extract rfl rfl) ?_
  refine GoOps.q (v := .pointer y2) rfl rfl (by decide) (q_assign rfl) ?_
  refine GoOps.q (v := .int .i64 y3) rfl rfl (by decide) (q_assign rfl) ?_
  refine GoOps.nil ?_
  refine Go.seq ?_
  refine Go.region rfl ?_
  refine GoOps.q (v := .agg ([.int .i64 65, .int .i64 8, .int .i64 24] : List Value).toArray) rfl rfl (by decide) (q_build (ps := [(0, .int .i64 65), (1, .int .i64 8), (2, .int .i64 24)]) (cs := [.int .i64 65, .int .i64 8, .int .i64 24]) places25 zero25 rfl rfl rfl) ?_
  refine call_dst rfl (by decide) body8 (geom_New_s _ _ _ h) rfl ?_
  rintro _ H4 ⟨y5, y6, rfl, h⟩
  refine GoOps.q (v := .tuple #[.pointer y5, .int .i64 y6]) rfl rfl (by decide) (q_move rfl) ?_
  refine GoOps.q (v := .pointer y5) rfl rfl (by decide) (q_extract rfl rfl) ?_
  refine GoOps.q (v := .int .i64 y6) rfl rfl (by decide) (q_extract rfl rfl) ?_
  refine GoOps.q (v := .pointer y5) rfl rfl (by decide) (q_assign rfl) ?_
  refine GoOps.q (v := .int .i64 y6) rfl rfl (by decide) (q_assign rfl) ?_
  refine GoOps.nil ?_
  refine Go.seq ?_
  refine Go.region rfl ?_
  refine GoOps.q (v := .pointer none) rfl rfl (by decide) (q_assign rfl) ?_
  refine GoOps.nil ?_
  refine Go.seq ?_
  refine Go.region rfl ?_
  refine GoOps.q (v := .int .i64 y3) rfl rfl (by decide) (q_move rfl) ?_
  refine GoOps.q (v := .bool (y3 == 0)) rfl rfl (by decide) (q_eql rfl rfl) ?_
  refine GoOps.q (v := .bool (y3 == 0)) rfl rfl (by decide) (q_move rfl) ?_
  refine join_ops 3 (fun ρ (s8 : Bool) => ρ 1 = .pointer y2 ∧ ρ 4 = .int .i64 y6 ∧ ρ 5 = .pointer none ∧ ρ 21 = .bool s8) h ?_ ?_ <;> clear h
  · intro s8 H10 ρ h hE
    obtain ⟨e11_1, e11_4, e11_5, e11_21⟩ := hE
    refine GoOps.q (v := .bool s8) rfl rfl (by decide) (q_move e11_21) ?_
    refine join_ops 3 (fun ρ (s13 : Bool) => ρ 1 = .pointer y2 ∧ ρ 5 = .pointer none ∧ ρ 25 = .bool s13) h ?_ ?_ <;> clear h
    · intro s13 H15 ρ h hE
      obtain ⟨e16_1, e16_5, e16_25⟩ := hE
      refine GoOps.q (v := .bool s13) rfl rfl (by decide) (q_move e16_25) ?_
      refine join_ops 4 (fun ρ (s18 : Bool) => ρ 1 = .pointer y2 ∧ ρ 5 = .pointer none ∧ ρ 30 = .bool s18) h ?_ ?_ <;> clear h
      · intro s18 H20 ρ h hE
        obtain ⟨e21_1, e21_5, e21_30⟩ := hE
        refine GoOps.q (v := .bool s18) rfl rfl (by decide) (q_move e21_30) ?_
        refine join_ops 4 (fun ρ (s23 : Bool) => ρ 1 = .pointer y2 ∧ ρ 5 = .pointer none ∧ ρ 35 = .bool s23) h ?_ ?_ <;> clear h
        · intro s23 H25 ρ h hE
          obtain ⟨e26_1, e26_5, e26_35⟩ := hE
          refine GoOps.q (v := .bool s23) rfl rfl (by decide) (q_move e26_35) ?_
          refine join_ops 4 (fun ρ (s28 : Bool) => ρ 1 = .pointer y2 ∧ ρ 5 = .pointer none ∧ ρ 40 = .bool s28) h ?_ ?_ <;> clear h
          · intro s28 H30 ρ h hE
            obtain ⟨e31_1, e31_5, e31_40⟩ := hE
            refine GoOps.q (v := .bool s28) rfl rfl (by decide) (q_move e31_40) ?_
            refine join_ops 4 (fun ρ (s33 : Bool) => ρ 1 = .pointer y2 ∧ ρ 5 = .pointer none ∧ ρ 45 = .bool s33) h ?_ ?_ <;> clear h
            · intro s33 H35 ρ h hE
              obtain ⟨e36_1, e36_5, e36_45⟩ := hE
              refine GoOps.q (v := .bool s33) rfl rfl (by decide) (q_move e36_45) ?_
              refine join_ops 4 (fun ρ (s38 : Bool) => ρ 5 = .pointer none ∧ ρ 50 = .bool s38) h ?_ ?_ <;> clear h
              · intro s38 H40 ρ h hE
                obtain ⟨e41_5, e41_50⟩ := hE
                refine GoOps.q (v := .bool s38) rfl rfl (by decide) (q_move e41_50) ?_
                refine join_ops 4 (fun ρ (s43 : Bool) => ρ 5 = .pointer none ∧ ρ 55 = .bool s43) h ?_ ?_ <;> clear h
                · intro s43 H45 ρ h hE
                  obtain ⟨e46_5, e46_55⟩ := hE
                  refine GoOps.q (v := .bool s43) rfl rfl (by decide) (q_move e46_55) ?_
                  refine join_ops 4 (fun ρ (s48 : Bool) => ρ 60 = .bool s48) h ?_ ?_ <;> clear h
                  · intro s48 H50 ρ h hE
                    have e51_60 := hE
                    refine GoOps.q (v := .bool s48) rfl rfl (by decide) (q_assign e51_60) ?_
                    refine GoOps.nil ?_
                    exact Go.ret ⟨.inl rfl, _, _, DOk.nil, (resOk1 Try.results9 rfl), ⟨_, rfl, h⟩⟩
                  · intro j49 hj49 h
                    rcases bor s43 with hc47 | hc47
                    · have h := h.1 hc47
                      refine GoOps.q (v := .pointer none) (want_yes rfl rfl rfl hc47) rfl (by decide) (q_move e46_5) ?_
                      refine call_dst (want_yes rfl rfl rfl hc47) (by decide) body15 (geom_Geom_Sectors_s _ _ _ h) rfl ?_
                      rintro _ H52 ⟨y53, rfl, h⟩
                      refine GoOps.q (v := .bool (y53 == 0)) (want_yes rfl rfl rfl hc47) rfl (by decide) (q_eql rfl rfl) ?_
                      refine GoOps.q (v := .bool (y53 == 0)) rfl rfl (by decide) (q_pickT (btT rfl hc47) rfl) ?_
                      exact hj49 _ _ _ h rfl
                    · have h := h.2 hc47
                      refine no_dst (want_no rfl rfl rfl hc47) rfl (by decide) ?_
                      refine no_dst (want_no rfl rfl rfl hc47) rfl (by decide) ?_
                      refine no_dst (want_no rfl rfl rfl hc47) rfl (by decide) ?_
                      refine GoOps.q (v := .bool false) rfl rfl (by decide) (q_pickF (btF rfl hc47) rfl) ?_
                      exact hj49 _ _ _ h rfl
                · intro j44 hj44 h
                  rcases bor s38 with hc42 | hc42
                  · have h := h.1 hc42
                    refine GoOps.q (v := .pointer none) (want_yes rfl rfl rfl hc42) rfl (by decide) (q_move e41_5) ?_
                    refine call_dst (want_yes rfl rfl rfl hc42) (by decide) body13 (geom_Geom_Seg_s _ _ _ _ h) rfl ?_
                    rintro _ H54 ⟨y55, rfl, h⟩
                    refine GoOps.q (v := .bool (y55 == (-1))) (want_yes rfl rfl rfl hc42) rfl (by decide) (q_eql rfl rfl) ?_
                    refine GoOps.q (v := .bool (y55 == (-1))) rfl rfl (by decide) (q_pickT (btT rfl hc42) rfl) ?_
                    exact hj44 _ _ _ h ⟨e41_5, rfl⟩
                  · have h := h.2 hc42
                    refine no_dst (want_no rfl rfl rfl hc42) rfl (by decide) ?_
                    refine no_dst (want_no rfl rfl rfl hc42) rfl (by decide) ?_
                    refine no_dst (want_no rfl rfl rfl hc42) rfl (by decide) ?_
                    refine GoOps.q (v := .bool false) rfl rfl (by decide) (q_pickF (btF rfl hc42) rfl) ?_
                    exact hj44 _ _ _ h ⟨e41_5, rfl⟩
              · intro j39 hj39 h
                rcases bor s33 with hc37 | hc37
                · have h := h.1 hc37
                  refine GoOps.q (v := .pointer y2) (want_yes rfl rfl rfl hc37) rfl (by decide) (q_move e36_1) ?_
                  refine call_dst (want_yes rfl rfl rfl hc37) (by decide) body12 (geom_Geom_Share_s _ _ _ h) rfl ?_
                  rintro _ H56 ⟨y57, rfl, h⟩
                  refine GoOps.q (v := .bool (y57 == 59)) (want_yes rfl rfl rfl hc37) rfl (by decide) (q_eql rfl rfl) ?_
                  refine GoOps.q (v := .bool (y57 == 59)) rfl rfl (by decide) (q_pickT (btT rfl hc37) rfl) ?_
                  exact hj39 _ _ _ h ⟨e36_5, rfl⟩
                · have h := h.2 hc37
                  refine no_dst (want_no rfl rfl rfl hc37) rfl (by decide) ?_
                  refine no_dst (want_no rfl rfl rfl hc37) rfl (by decide) ?_
                  refine no_dst (want_no rfl rfl rfl hc37) rfl (by decide) ?_
                  refine GoOps.q (v := .bool false) rfl rfl (by decide) (q_pickF (btF rfl hc37) rfl) ?_
                  exact hj39 _ _ _ h ⟨e36_5, rfl⟩
            · intro j34 hj34 h
              rcases bor s28 with hc32 | hc32
              · have h := h.1 hc32
                refine GoOps.q (v := .pointer y2) (want_yes rfl rfl rfl hc32) rfl (by decide) (q_move e31_1) ?_
                refine call_dst (want_yes rfl rfl rfl hc32) (by decide) body15 (geom_Geom_Sectors_s _ _ _ h) rfl ?_
                rintro _ H58 ⟨y59, rfl, h⟩
                refine GoOps.q (v := .bool (y59 == 206)) (want_yes rfl rfl rfl hc32) rfl (by decide) (q_eql rfl rfl) ?_
                refine GoOps.q (v := .bool (y59 == 206)) rfl rfl (by decide) (q_pickT (btT rfl hc32) rfl) ?_
                exact hj34 _ _ _ h ⟨e31_1, e31_5, rfl⟩
              · have h := h.2 hc32
                refine no_dst (want_no rfl rfl rfl hc32) rfl (by decide) ?_
                refine no_dst (want_no rfl rfl rfl hc32) rfl (by decide) ?_
                refine no_dst (want_no rfl rfl rfl hc32) rfl (by decide) ?_
                refine GoOps.q (v := .bool false) rfl rfl (by decide) (q_pickF (btF rfl hc32) rfl) ?_
                exact hj34 _ _ _ h ⟨e31_1, e31_5, rfl⟩
          · intro j29 hj29 h
            rcases bor s23 with hc27 | hc27
            · have h := h.1 hc27
              refine GoOps.q (v := .pointer y2) (want_yes rfl rfl rfl hc27) rfl (by decide) (q_move e26_1) ?_
              refine call_dst (want_yes rfl rfl rfl hc27) (by decide) body13 (geom_Geom_Seg_s _ _ _ _ h) rfl ?_
              rintro _ H60 ⟨y61, rfl, h⟩
              refine GoOps.q (v := .bool (y61 == 14)) (want_yes rfl rfl rfl hc27) rfl (by decide) (q_eql rfl rfl) ?_
              refine GoOps.q (v := .bool (y61 == 14)) rfl rfl (by decide) (q_pickT (btT rfl hc27) rfl) ?_
              exact hj29 _ _ _ h ⟨e26_1, e26_5, rfl⟩
            · have h := h.2 hc27
              refine no_dst (want_no rfl rfl rfl hc27) rfl (by decide) ?_
              refine no_dst (want_no rfl rfl rfl hc27) rfl (by decide) ?_
              refine no_dst (want_no rfl rfl rfl hc27) rfl (by decide) ?_
              refine GoOps.q (v := .bool false) rfl rfl (by decide) (q_pickF (btF rfl hc27) rfl) ?_
              exact hj29 _ _ _ h ⟨e26_1, e26_5, rfl⟩
        · intro j24 hj24 h
          rcases bor s18 with hc22 | hc22
          · have h := h.1 hc22
            refine GoOps.q (v := .pointer y2) (want_yes rfl rfl rfl hc22) rfl (by decide) (q_move e21_1) ?_
            refine call_dst (want_yes rfl rfl rfl hc22) (by decide) body19 (geom_Geom_RegionLen_s _ _ _ h) rfl ?_
            rintro _ H62 ⟨y63, rfl, h⟩
            refine GoOps.q (v := .bool (y63 == 2)) (want_yes rfl rfl rfl hc22) rfl (by decide) (q_eql rfl rfl) ?_
            refine GoOps.q (v := .bool (y63 == 2)) rfl rfl (by decide) (q_pickT (btT rfl hc22) rfl) ?_
            exact hj24 _ _ _ h ⟨e21_1, e21_5, rfl⟩
          · have h := h.2 hc22
            refine no_dst (want_no rfl rfl rfl hc22) rfl (by decide) ?_
            refine no_dst (want_no rfl rfl rfl hc22) rfl (by decide) ?_
            refine no_dst (want_no rfl rfl rfl hc22) rfl (by decide) ?_
            refine GoOps.q (v := .bool false) rfl rfl (by decide) (q_pickF (btF rfl hc22) rfl) ?_
            exact hj24 _ _ _ h ⟨e21_1, e21_5, rfl⟩
      · intro j19 hj19 h
        rcases bor s13 with hc17 | hc17
        · have h := h.1 hc17
          refine GoOps.q (v := .pointer y2) (want_yes rfl rfl rfl hc17) rfl (by decide) (q_move e16_1) ?_
          refine call_dst (want_yes rfl rfl rfl hc17) (by decide) body20 (geom_Geom_Pages_s _ _ _ h) rfl ?_
          rintro _ H64 ⟨y65, rfl, h⟩
          refine GoOps.q (v := .bool (y65 == 2)) (want_yes rfl rfl rfl hc17) rfl (by decide) (q_eql rfl rfl) ?_
          refine GoOps.q (v := .bool (y65 == 2)) rfl rfl (by decide) (q_pickT (btT rfl hc17) rfl) ?_
          exact hj19 _ _ _ h ⟨e16_1, e16_5, rfl⟩
        · have h := h.2 hc17
          refine no_dst (want_no rfl rfl rfl hc17) rfl (by decide) ?_
          refine no_dst (want_no rfl rfl rfl hc17) rfl (by decide) ?_
          refine no_dst (want_no rfl rfl rfl hc17) rfl (by decide) ?_
          refine GoOps.q (v := .bool false) rfl rfl (by decide) (q_pickF (btF rfl hc17) rfl) ?_
          exact hj19 _ _ _ h ⟨e16_1, e16_5, rfl⟩
    · intro j14 hj14 h
      rcases bor s8 with hc12 | hc12
      · have h := h.1 hc12
        refine GoOps.q (v := .int .i64 y6) (want_yes rfl rfl rfl hc12) rfl (by decide) (q_move e11_4) ?_
        refine GoOps.q (v := .bool (y6 == 1)) (want_yes rfl rfl rfl hc12) rfl (by decide) (q_eql rfl rfl) ?_
        refine GoOps.q (v := .bool (y6 == 1)) rfl rfl (by decide) (q_pickT (btT rfl hc12) rfl) ?_
        exact hj14 _ _ _ h ⟨e11_1, e11_5, rfl⟩
      · have h := h.2 hc12
        refine no_dst (want_no rfl rfl rfl hc12) rfl (by decide) ?_
        refine no_dst (want_no rfl rfl rfl hc12) rfl (by decide) ?_
        refine GoOps.q (v := .bool false) rfl rfl (by decide) (q_pickF (btF rfl hc12) rfl) ?_
        exact hj14 _ _ _ h ⟨e11_1, e11_5, rfl⟩
  · intro j9 hj9 h
    rcases bor (y3 == 0) with hc7 | hc7
    · have h := h.1 hc7
      refine GoOps.q (v := .pointer y2) (want_yes rfl rfl rfl hc7) rfl (by decide) (q_move rfl) ?_
      refine GoOps.q (v := .bool (!(Option.isNone y2))) (want_yes rfl rfl rfl hc7) rfl (by decide) (q_neqPn Try.underlying27 rfl rfl) ?_
      refine GoOps.q (v := .bool (!(Option.isNone y2))) rfl rfl (by decide) (q_pickT (btT rfl hc7) rfl) ?_
      exact hj9 _ _ _ h ⟨rfl, rfl, rfl, rfl⟩
    · have h := h.2 hc7
      refine no_dst (want_no rfl rfl rfl hc7) rfl (by decide) ?_
      refine no_dst (want_no rfl rfl rfl hc7) rfl (by decide) ?_
      refine GoOps.q (v := .bool false) rfl rfl (by decide) (q_pickF (btF rfl hc7) rfl) ?_
      exact hj9 _ _ _ h ⟨rfl, rfl, rfl, rfl⟩

/-- keelson.keelsonlaw4.GeomShare -/
def keelsonlaw4_GeomShare (p0 : (Int × Int × Int)) (p1 : Sl) (H : PH) (Q : Bool → PH → Prop) : Prop :=
  mNew H (row [.int .i64 p0.1, .int .i64 p0.2.1, .int .i64 p0.2.2] 22) fun a1 H2 =>
  mLdR (fun (x : (Int × Int × Int)) => [.int .i64 x.1, .int .i64 x.2.1, .int .i64 x.2.2]) H2 a1 3 fun x4 =>
  keelsonalike_Config (x4.1, x4.2.1, x4.2.2) false H2 fun y7 H6 =>
  mNew H6 (row [.int .i64 0, .int .i64 0, .int .i64 0] 25) fun a8 H9 =>
  mSt H9 a8 ([.int .i64 y7.1, .int .i64 y7.2.1, .int .i64 y7.2.2]) fun H11 =>
  mLdR (fun (x : (Int × Int × Int)) => [.int .i64 x.1, .int .i64 x.2.1, .int .i64 x.2.2]) H11 a8 3 fun x13 =>
  geom_New (x13.1, x13.2.1, x13.2.2) H11 fun y16 y17 H15 =>
  mJoin (fun (s19 : Bool) (H21 : PH) =>
  mJoin (fun (s24 : Bool) (H26 : PH) =>
  mIf s24
  (mJoin (fun (s30 : Bool) (H32 : PH) =>
  mJoin (fun (s35 : Bool) (H37 : PH) =>
  Q s35 H37)
  fun j36 =>
  mIf s30
  (keelsonlaw4_awake H32 fun y40 H39 =>
  j36 y40 H39)
  (j36 false H32))
  fun j31 =>
  mIf (y17 == 0)
  (j31 (!(Option.isNone y16)) H26)
  (j31 false H26))
  (mLoop (fun (s41 : Int × Bool × Int) (H44 : PH) (again42 : (Int × Bool × Int) → PH → Prop) =>
  mLd (.int .i64) H44 (a8.add 1) fun x45 =>
  mIf (decide (s41.2.2 < (IntKind.wrap .i64 ((IntKind.wrap .i64 (x45 - 2)) - 1))))
  (mIdx p1 1 s41.2.2 fun a48 =>
  mLd (.int .i64) H44 a48 fun x50 =>
  mLd (.int .i64) H44 (a8.add 2) fun x52 =>
  keelsonalike_Round x50 x52 H44 fun y55 H54 =>
  mJoin (fun (s57 : Bool) (H59 : PH) =>
  again42 (IntKind.wrap .i64 (s41.1 + y55), s57, IntKind.wrap .i64 (s41.2.2 + 1)) H59)
  fun j58 =>
  mIf s41.2.1
  (j58 true H54)
  (geom_Geom_Half y16 H54 fun y62 H61 =>
  j58 (decide (y55 ≤ y62)) H61))
  (mJoin (fun (s64 : Bool) (H66 : PH) =>
  mJoin (fun (s69 : Bool) (H71 : PH) =>
  mJoin (fun (s74 : Bool) (H76 : PH) =>
  mJoin (fun (s79 : Bool) (H81 : PH) =>
  Q s79 H81)
  fun j80 =>
  mIf s74
  (keelsonlaw4_awake H76 fun y84 H83 =>
  j80 y84 H83)
  (j80 false H76))
  fun j75 =>
  mIf s69
  (mLd (.int .i64) H71 (a8.add 2) fun x85 =>
  geom_Geom_Half y16 H71 fun y88 H87 =>
  mSame H87 (a8.add 2) (.int .i64 x85) <|
  j75 (decide ((IntKind.wrap .i64 (x85 - 3)) ≤ (IntKind.wrap .i64 (2 * y88)))) H87)
  (j75 false H71))
  fun j70 =>
  mIf s64
  (mLd (.int .i64) H66 (a8.add 2) fun x90 =>
  geom_Geom_Half y16 H66 fun y93 H92 =>
  mSame H92 (a8.add 2) (.int .i64 x90) <|
  j70 (decide ((IntKind.wrap .i64 (2 * y93)) ≤ (IntKind.wrap .i64 (x90 - 2)))) H92)
  (j70 false H66))
  fun j65 =>
  mIf s41.2.1
  (j65 true H44)
  (geom_Geom_Share y16 H44 fun y96 H95 =>
  j65 (decide (y96 < s41.1)) H95)))
  (0, false, 0) H26))
  fun j25 =>
  mIf s19
  (j25 true H21)
  (mLd (.int .i64) H21 (a8.add 1) fun x97 =>
  j25 (decide ((p1.len : Int) < (IntKind.wrap .i64 ((IntKind.wrap .i64 (x97 - 2)) - 1)))) H21))
  fun j20 =>
  mIf (y17 != 0)
  (j20 true H15)
  (j20 (Option.isNone y16) H15)

set_option maxRecDepth 20000 in
set_option maxHeartbeats 1000000 in
theorem keelsonlaw4_GeomShare_s (p0 : (Int × Int × Int)) (p1 : Sl) (H : PH) (Q : Bool → PH → Prop) (h : keelsonlaw4_GeomShare p0 p1 H Q) :
    CallsH Try.prog 3 #[.agg ([.int .i64 p0.1, .int .i64 p0.2.1, .int .i64 p0.2.2] : List Value).toArray, Sl.v p1] H (fun v H' => ∃ (r0 : Bool), v = .bool r0 ∧ Q r0 H') := by
  unfold keelsonlaw4_GeomShare at h
  refine callsH_of_go Try.func3 rfl Try.ntmps3 (Nat.le_of_ble_eq_true rfl) ?_
  refine Go.seq ?_
  refine Go.region rfl ?_
  refine op_dst rfl rfl (by decide) (do_newBox (cs := [.int .i64 p0.1, .int .i64 p0.2.1, .int .i64 p0.2.2]) rfl rfl fun a1 H2 hb3 => ?_) 
  have h := h a1 H2 hb3
  refine GoOps.q (v := .bool false) rfl rfl (by decide) (q_assign rfl) ?_
  refine GoOps.nil ?_
  refine Go.seq ?_
  refine Go.region rfl ?_
  obtain ⟨x4, hx5, h⟩ := h
  refine GoOps.q (v := .agg ([.int .i64 x4.1, .int .i64 x4.2.1, .int .i64 x4.2.2] : List Value).toArray) rfl rfl (by decide) (q_loadA aggr22 rfl hx5) ?_
  refine call_dst rfl (by decide) body7 (keelsonalike_Config_s _ _ _ _ h) rfl ?_
  rintro _ H6 ⟨y7, rfl, h⟩
  refine op_dst rfl rfl (by decide) (do_new zero25 rfl fun a8 H9 hb10 => ?_) 
  have h := h a8 H9 hb10
  obtain ⟨q12b, q12o, q12c, q12e, hq12a, hq12b, hq12l, hq12v, h⟩ := h
  refine op_none rfl rfl (do_store (vs := [.int .i64 y7.1, .int .i64 y7.2.1, .int .i64 y7.2.2]) size25 (pta rfl hq12a) rfl rfl rfl hq12v hq12b hq12l ?_) 
  refine GoOps.nil ?_
  refine Go.seq ?_
  refine Go.region rfl ?_
  obtain ⟨x13, hx14, h⟩ := h
  refine GoOps.q (v := .agg ([.int .i64 x13.1, .int .i64 x13.2.1, .int .i64 x13.2.2] : List Value).toArray) rfl rfl (by decide) (q_loadA aggr25 rfl hx14) ?_
  refine call_dst rfl (by decide) body8 (geom_New_s _ _ _ h) rfl ?_
  rintro _ H15 ⟨y16, y17, rfl, h⟩
  refine GoOps.q (v := .tuple #[.pointer y16, .int .i64 y17]) rfl rfl (by decide) (q_move rfl) ?_
  refine GoOps.q (v := .pointer y16) rfl rfl (by decide) (q_extract rfl rfl) ?_
  refine GoOps.q (v := .int .i64 y17) rfl rfl (by decide) (q_extract rfl rfl) ?_
  refine GoOps.q (v := .pointer y16) rfl rfl (by decide) (q_assign rfl) ?_
  refine GoOps.q (v := .int .i64 y17) rfl rfl (by decide) (q_assign rfl) ?_
  refine GoOps.nil ?_
  refine Go.seq ?_
  refine Go.seq ?_
  refine Go.region rfl ?_
  refine GoOps.q (v := .int .i64 y17) rfl rfl (by decide) (q_move rfl) ?_
  refine GoOps.q (v := .bool (y17 != 0)) rfl rfl (by decide) (q_neq rfl rfl) ?_
  refine GoOps.q (v := .bool (y17 != 0)) rfl rfl (by decide) (q_move rfl) ?_
  refine join_ops 3 (fun ρ (s19 : Bool) => ρ 1 = Sl.v p1 ∧ ρ 5 = .pointer (some a8) ∧ ρ 6 = .pointer y16 ∧ ρ 7 = .int .i64 y17 ∧ ρ 24 = .bool s19) h ?_ ?_ <;> clear h
  · intro s19 H21 ρ h hE
    obtain ⟨e22_1, e22_5, e22_6, e22_7, e22_24⟩ := hE
    refine GoOps.q (v := .bool s19) rfl rfl (by decide) (q_move e22_24) ?_
    refine join_ops 8 (fun ρ (s24 : Bool) => ρ 1 = Sl.v p1 ∧ ρ 5 = .pointer (some a8) ∧ ρ 6 = .pointer y16 ∧ ρ 7 = .int .i64 y17 ∧ ρ 33 = .bool s24) h ?_ ?_ <;> clear h
    · intro s24 H26 ρ h hE
      obtain ⟨e27_1, e27_5, e27_6, e27_7, e27_33⟩ := hE
      refine GoOps.nil ?_
      rcases bor s24 with hc28 | hc28
      · have h := h.1 hc28
        refine Go.condT (btT e27_33 hc28) ?_
        refine Go.seq ?_
        refine Go.region rfl ?_
        refine GoOps.q (v := .int .i64 y17) rfl rfl (by decide) (q_move e27_7) ?_
        refine GoOps.q (v := .bool (y17 == 0)) rfl rfl (by decide) (q_eql rfl rfl) ?_
        refine GoOps.q (v := .bool (y17 == 0)) rfl rfl (by decide) (q_move rfl) ?_
        refine join_ops 3 (fun ρ (s30 : Bool) => ρ 39 = .bool s30) h ?_ ?_ <;> clear h
        · intro s30 H32 ρ h hE
          have e33_39 := hE
          refine GoOps.q (v := .bool s30) rfl rfl (by decide) (q_move e33_39) ?_
          refine join_ops 2 (fun ρ (s35 : Bool) => ρ 42 = .bool s35) h ?_ ?_ <;> clear h
          · intro s35 H37 ρ h hE
            have e38_42 := hE
            refine GoOps.q (v := .bool s35) rfl rfl (by decide) (q_assign e38_42) ?_
            refine GoOps.nil ?_
            exact Go.ret ⟨.inl rfl, _, _, DOk.nil, (resOk1 Try.results3 rfl), ⟨_, rfl, h⟩⟩
          · intro j36 hj36 h
            rcases bor s30 with hc34 | hc34
            · have h := h.1 hc34
              refine call_dst (want_yes rfl rfl rfl hc34) (by decide) body9 (keelsonlaw4_awake_s _ _ h) rfl ?_
              rintro _ H39 ⟨y40, rfl, h⟩
              refine GoOps.q (v := .bool y40) rfl rfl (by decide) (q_pickT (btT rfl hc34) rfl) ?_
              exact hj36 _ _ _ h rfl
            · have h := h.2 hc34
              refine no_dst (want_no rfl rfl rfl hc34) rfl (by decide) ?_
              refine GoOps.q (v := .bool false) rfl rfl (by decide) (q_pickF (btF rfl hc34) rfl) ?_
              exact hj36 _ _ _ h rfl
        · intro j31 hj31 h
          rcases bor (y17 == 0) with hc29 | hc29
          · have h := h.1 hc29
            refine GoOps.q (v := .pointer y16) (want_yes rfl rfl rfl hc29) rfl (by decide) (q_move e27_6) ?_
            refine GoOps.q (v := .bool (!(Option.isNone y16))) (want_yes rfl rfl rfl hc29) rfl (by decide) (q_neqPn Try.underlying27 rfl rfl) ?_
            refine GoOps.q (v := .bool (!(Option.isNone y16))) rfl rfl (by decide) (q_pickT (btT rfl hc29) rfl) ?_
            exact hj31 _ _ _ h rfl
          · have h := h.2 hc29
            refine no_dst (want_no rfl rfl rfl hc29) rfl (by decide) ?_
            refine no_dst (want_no rfl rfl rfl hc29) rfl (by decide) ?_
            refine GoOps.q (v := .bool false) rfl rfl (by decide) (q_pickF (btF rfl hc29) rfl) ?_
            exact hj31 _ _ _ h rfl
      · have h := h.2 hc28
        refine Go.condF (btF e27_33 hc28) ?_
        refine Go.skip ?_
        refine Go.seq ?_
        refine Go.region rfl ?_
        refine GoOps.q (v := .int .i64 0) rfl rfl (by decide) (q_assign rfl) ?_
        refine GoOps.q (v := .bool false) rfl rfl (by decide) (q_assign rfl) ?_
        refine GoOps.nil ?_
        refine Go.seq ?_
        refine Go.seq ?_
        refine Go.region rfl ?_
        refine GoOps.q (v := .int .i64 0) rfl rfl (by decide) (q_assign rfl) ?_
        refine GoOps.nil ?_
        refine Go.block ?_
        refine loop_go (fun ρ (s41 : Int × Bool × Int) => ρ 1 = Sl.v p1 ∧ ρ 5 = .pointer (some a8) ∧ ρ 6 = .pointer y16 ∧ ρ 8 = .int .i64 s41.1 ∧ ρ 9 = .bool s41.2.1 ∧ ρ 10 = .int .i64 s41.2.2) h ⟨e27_1, e27_5, e27_6, rfl, rfl, rfl⟩ ?_
        clear h
        intro ρ s41 H44 again42 hE h hagain42
        obtain ⟨e43_1, e43_5, e43_6, e43_8, e43_9, e43_10⟩ := hE
        refine Go.seq ?_
        refine Go.seq ?_
        refine Go.region rfl ?_
        refine GoOps.q (v := .int .i64 s41.2.2) rfl rfl (by decide) (q_move e43_10) ?_
        refine GoOps.q (v := .pointer (some (a8.add 1))) rfl rfl (by decide) (q_fieldAddr foff25_1 e43_5) ?_
        obtain ⟨x45, hx46, h⟩ := h
        refine GoOps.q (v := .int .i64 x45) rfl rfl (by decide) (q_load scalar3 rfl hx46) ?_
        refine GoOps.q (v := .int .i64 (IntKind.wrap .i64 (x45 - 2))) rfl rfl (by decide) (q_sub rfl rfl) ?_
        refine GoOps.q (v := .int .i64 (IntKind.wrap .i64 ((IntKind.wrap .i64 (x45 - 2)) - 1))) rfl rfl (by decide) (q_sub rfl rfl) ?_
        refine GoOps.q (v := .bool (decide (s41.2.2 < (IntKind.wrap .i64 ((IntKind.wrap .i64 (x45 - 2)) - 1))))) rfl rfl (by decide) (q_lss rfl rfl) ?_
        refine GoOps.nil ?_
        rcases bor (decide (s41.2.2 < (IntKind.wrap .i64 ((IntKind.wrap .i64 (x45 - 2)) - 1)))) with hc47 | hc47
        · have h := h.1 hc47
          refine Go.condT (btT rfl hc47) ?_
          refine Go.skip ?_
          refine Go.seq ?_
          refine Go.block ?_
          refine Go.seq ?_
          refine Go.draw mixed ?_
          refine plan_pure (i := 0) (d := 51) (S2 := 1) (v := Sl.v p1) rfl (by decide +kernel) rfl (q_move e43_1) ?_
          refine plan_pure (i := 1) (d := 52) (S2 := 3) (v := .int .i64 s41.2.2) rfl (by decide +kernel) rfl (q_move e43_10) ?_
          obtain ⟨a48, ha49, h⟩ := h
          refine plan_pure (i := 2) (d := 53) (S2 := 7) (v := .pointer (some a48)) rfl (by decide +kernel) rfl (q_idx slice23 ha49 rfl rfl) ?_
          obtain ⟨x50, hx51, h⟩ := h
          refine plan_load (i := 3) (d := 54) (S2 := 15) (v := .int .i64 x50) rfl (by decide +kernel) rfl (q_load scalar3 rfl hx51) ?_
          refine plan_pure (i := 4) (d := 55) (S2 := 31) (v := .pointer (some (a8.add 2))) rfl (by decide +kernel) rfl (q_fieldAddr foff25_2 e43_5) ?_
          obtain ⟨x52, hx53, h⟩ := h
          refine plan_load (i := 5) (d := 56) (S2 := 63) (v := .int .i64 x52) rfl (by decide +kernel) rfl (q_load scalar3 rfl hx53) ?_
          refine plan_one (j := 6) (S2 := 127) (by decide +kernel) rfl (by decide) rfl ?_
          refine do_call2 body10 (keelsonalike_Round_s _ _ _ _ h) rfl ?_
          rintro _ H54 ⟨y55, rfl, h⟩
          refine ⟨⟨.inl ⟨[6], by decide +kernel, rfl⟩, .inl ⟨[6], by decide +kernel, rfl⟩, trivial⟩, ?_⟩
          refine plan_pure (i := 7) (d := 11) (S2 := 255) (v := .int .i64 y55) rfl (by decide +kernel) rfl (q_assign rfl) ?_
          refine plan_done (by decide +kernel) ?_
          refine Go.seq ?_
          refine Go.region rfl ?_
          refine GoOps.q (v := .int .i64 s41.1) rfl rfl (by decide) (q_move e43_8) ?_
          refine GoOps.q (v := .int .i64 y55) rfl rfl (by decide) (q_move rfl) ?_
          refine GoOps.q (v := .int .i64 (IntKind.wrap .i64 (s41.1 + y55))) rfl rfl (by decide) (q_add rfl rfl) ?_
          refine GoOps.q (v := .int .i64 (IntKind.wrap .i64 (s41.1 + y55))) rfl rfl (by decide) (q_assign rfl) ?_
          refine GoOps.nil ?_
          refine Go.region rfl ?_
          refine GoOps.q (v := .bool s41.2.1) rfl rfl (by decide) (q_move e43_9) ?_
          refine GoOps.q (v := .bool s41.2.1) rfl rfl (by decide) (q_move rfl) ?_
          refine join_ops 5 (fun ρ (s57 : Bool) => ρ 1 = Sl.v p1 ∧ ρ 5 = .pointer (some a8) ∧ ρ 6 = .pointer y16 ∧ ρ 8 = .int .i64 (IntKind.wrap .i64 (s41.1 + y55)) ∧ ρ 10 = .int .i64 s41.2.2 ∧ ρ 67 = .bool s57) h ?_ ?_ <;> clear h
          · intro s57 H59 ρ h hE
            obtain ⟨e60_1, e60_5, e60_6, e60_8, e60_10, e60_67⟩ := hE
            refine GoOps.q (v := .bool s57) rfl rfl (by decide) (q_assign e60_67) ?_
            refine GoOps.nil ?_
            refine Go.inBlock ?_
            refine Go.region rfl ?_
            refine GoOps.q (v := .int .i64 s41.2.2) rfl rfl (by decide) (q_move e60_10) ?_
            refine GoOps.q (v := .int .i64 (IntKind.wrap .i64 (s41.2.2 + 1))) rfl rfl (by decide) (q_add rfl rfl) ?_
            refine GoOps.q (v := .int .i64 (IntKind.wrap .i64 (s41.2.2 + 1))) rfl rfl (by decide) (q_assign rfl) ?_
            refine GoOps.nil ?_
            exact hagain42 _ _ _ h ⟨e60_1, e60_5, e60_6, e60_8, rfl, rfl⟩
          · intro j58 hj58 h
            rcases bor s41.2.1 with hc56 | hc56
            · have h := h.1 hc56
              refine no_dst (want_no rfl rfl rfl hc56) rfl (by decide) ?_
              refine no_dst (want_no rfl rfl rfl hc56) rfl (by decide) ?_
              refine no_dst (want_no rfl rfl rfl hc56) rfl (by decide) ?_
              refine no_dst (want_no rfl rfl rfl hc56) rfl (by decide) ?_
              refine GoOps.q (v := .bool true) rfl rfl (by decide) (q_pickT (btT rfl hc56) rfl) ?_
              exact hj58 _ _ _ h ⟨e43_1, e43_5, e43_6, rfl, e43_10, rfl⟩
            · have h := h.2 hc56
              refine GoOps.q (v := .int .i64 y55) (want_yes rfl rfl rfl hc56) rfl (by decide) (q_move rfl) ?_
              refine GoOps.q (v := .pointer y16) (want_yes rfl rfl rfl hc56) rfl (by decide) (q_move e43_6) ?_
              refine call_dst (want_yes rfl rfl rfl hc56) (by decide) body11 (geom_Geom_Half_s _ _ _ h) rfl ?_
              rintro _ H61 ⟨y62, rfl, h⟩
              refine GoOps.q (v := .bool (decide (y55 ≤ y62))) (want_yes rfl rfl rfl hc56) rfl (by decide) (q_leq rfl rfl) ?_
              refine GoOps.q (v := .bool (decide (y55 ≤ y62))) rfl rfl (by decide) (q_pickF (btF rfl hc56) rfl) ?_
              exact hj58 _ _ _ h ⟨e43_1, e43_5, e43_6, rfl, e43_10, rfl⟩
        · have h := h.2 hc47
          refine Go.condF (btF rfl hc47) ?_
          refine Go.exit rfl ?_
          refine Go.seq ?_
          refine Go.draw mixed ?_
          refine plan_pure (i := 0) (d := 68) (S2 := 1) (v := .bool s41.2.1) rfl (by decide +kernel) rfl (q_move e43_9) ?_
          refine plan_pure (i := 1) (d := 69) (S2 := 3) (v := .bool s41.2.1) rfl (by decide +kernel) rfl (q_move rfl) ?_
          refine join_plan 127 [] (fun ρ (s64 : Bool) => ρ 5 = .pointer (some a8) ∧ ρ 6 = .pointer y16 ∧ ρ 74 = .bool s64) h ?_ ?_ <;> clear h
          · intro s64 H66 ρ h hE
            obtain ⟨e67_5, e67_6, e67_74⟩ := hE
            refine plan_pure (i := 7) (d := 75) (S2 := 255) (v := .bool s64) rfl (by decide +kernel) rfl (q_move e67_74) ?_
            refine join_plan 65535 [12] (fun ρ (s69 : Bool) => ρ 5 = .pointer (some a8) ∧ ρ 6 = .pointer y16 ∧ ρ 83 = .bool s69) h ?_ ?_ <;> clear h
            · intro s69 H71 ρ h hE
              obtain ⟨e72_5, e72_6, e72_83⟩ := hE
              refine plan_pure (i := 16) (d := 84) (S2 := 131071) (v := .bool s69) rfl (by decide +kernel) rfl (q_move e72_83) ?_
              refine join_plan 33554431 [21, 12] (fun ρ (s74 : Bool) => ρ 92 = .bool s74) h ?_ ?_ <;> clear h
              · intro s74 H76 ρ h hE
                have e77_92 := hE
                refine plan_pure (i := 25) (d := 93) (S2 := 67108863) (v := .bool s74) rfl (by decide +kernel) rfl (q_move e77_92) ?_
                refine join_plan 268435455 [21, 12] (fun ρ (s79 : Bool) => ρ 95 = .bool s79) h ?_ ?_ <;> clear h
                · intro s79 H81 ρ h hE
                  have e82_95 := hE
                  refine plan_pure (i := 28) (d := 4) (S2 := 536870911) (v := .bool s79) rfl (by decide +kernel) rfl (q_assign e82_95) ?_
                  refine plan_done (by decide +kernel) ?_
                  exact Go.ret ⟨.inl rfl, _, _, DOk.nil, (resOk1 Try.results3 rfl), ⟨_, rfl, h⟩⟩
                · intro j80 hj80 h
                  rcases bor s74 with hc78 | hc78
                  · have h := h.1 hc78
                    refine plan_one (j := 26) (S2 := 134217727) (by decide +kernel) rfl (by decide) (want_yes rfl rfl rfl hc78) ?_
                    refine do_call2 body9 (keelsonlaw4_awake_s _ _ h) rfl ?_
                    rintro _ H83 ⟨y84, rfl, h⟩
                    refine ⟨⟨.inl ⟨[22, 23, 24, 25, 26], by decide +kernel, rfl⟩, .inl ⟨[13, 14, 15, 16, 18, 25, 26], by decide +kernel, rfl⟩, trivial⟩, ?_⟩
                    refine plan_pure (i := 27) (d := 95) (S2 := 268435455) (v := .bool y84) rfl (by decide +kernel) rfl (q_pickT (btT rfl hc78) rfl) ?_
                    exact hj80 _ _ _ h rfl
                  · have h := h.2 hc78
                    refine plan_skip (i := 26) (d := 94) (S2 := 134217727) rfl (by decide +kernel) (want_no rfl rfl rfl hc78) ?_
                    refine plan_pure (i := 27) (d := 95) (S2 := 268435455) (v := .bool false) rfl (by decide +kernel) rfl (q_pickF (btF rfl hc78) rfl) ?_
                    exact hj80 _ _ _ h rfl
              · intro j75 hj75 h
                rcases bor s69 with hc73 | hc73
                · have h := h.1 hc73
                  refine plan_pure (i := 17) (d := 85) (S2 := 262143) (v := .pointer y16) rfl (by decide +kernel) (want_yes rfl rfl rfl hc73) (q_move e72_6) ?_
                  refine plan_pure (i := 20) (d := 88) (S2 := 1310719) (v := .pointer (some (a8.add 2))) rfl (by decide +kernel) (want_yes rfl rfl rfl hc73) (q_fieldAddr foff25_2 e72_5) ?_
                  obtain ⟨x85, hx86, h⟩ := h
                  refine plan_load (i := 21) (d := 89) (S2 := 3407871) (v := .int .i64 x85) rfl (by decide +kernel) (want_yes rfl rfl rfl hc73) (q_load scalar3 rfl hx86) ?_
                  refine plan_pure (i := 22) (d := 90) (S2 := 7602175) (v := .int .i64 (IntKind.wrap .i64 (x85 - 3))) rfl (by decide +kernel) (want_yes rfl rfl rfl hc73) (q_sub rfl rfl) ?_
                  refine plan_one (j := 18) (S2 := 7864319) (by decide +kernel) rfl (by decide) (want_yes rfl rfl rfl hc73) ?_
                  refine do_call2 body11 (geom_Geom_Half_s _ _ _ h) rfl ?_
                  rintro _ H87 ⟨y88, rfl, h⟩
                  obtain ⟨hr89, h⟩ := h
                  refine ⟨⟨.inr ⟨_, _, rfl, rfl, q_load scalar3 rfl hr89⟩, .inl ⟨[13, 14, 15, 16, 18], by decide +kernel, rfl⟩, trivial⟩, ?_⟩
                  refine plan_pure (i := 19) (d := 87) (S2 := 8388607) (v := .int .i64 (IntKind.wrap .i64 (2 * y88))) rfl (by decide +kernel) (want_yes rfl rfl rfl hc73) (q_mul rfl rfl) ?_
                  refine plan_pure (i := 23) (d := 91) (S2 := 16777215) (v := .bool (decide ((IntKind.wrap .i64 (x85 - 3)) ≤ (IntKind.wrap .i64 (2 * y88))))) rfl (by decide +kernel) (want_yes rfl rfl rfl hc73) (q_geq rfl rfl) ?_
                  refine plan_pure (i := 24) (d := 92) (S2 := 33554431) (v := .bool (decide ((IntKind.wrap .i64 (x85 - 3)) ≤ (IntKind.wrap .i64 (2 * y88))))) rfl (by decide +kernel) rfl (q_pickT (btT rfl hc73) rfl) ?_
                  exact hj75 _ _ _ h rfl
                · have h := h.2 hc73
                  refine plan_skip (i := 17) (d := 85) (S2 := 262143) rfl (by decide +kernel) (want_no rfl rfl rfl hc73) ?_
                  refine plan_skip (i := 18) (d := 86) (S2 := 524287) rfl (by decide +kernel) (want_no rfl rfl rfl hc73) ?_
                  refine plan_skip (i := 19) (d := 87) (S2 := 1048575) rfl (by decide +kernel) (want_no rfl rfl rfl hc73) ?_
                  refine plan_skip (i := 20) (d := 88) (S2 := 2097151) rfl (by decide +kernel) (want_no rfl rfl rfl hc73) ?_
                  refine plan_skip (i := 21) (d := 89) (S2 := 4194303) rfl (by decide +kernel) (want_no rfl rfl rfl hc73) ?_
                  refine plan_skip (i := 22) (d := 90) (S2 := 8388607) rfl (by decide +kernel) (want_no rfl rfl rfl hc73) ?_
                  refine plan_skip (i := 23) (d := 91) (S2 := 16777215) rfl (by decide +kernel) (want_no rfl rfl rfl hc73) ?_
                  refine plan_pure (i := 24) (d := 92) (S2 := 33554431) (v := .bool false) rfl (by decide +kernel) rfl (q_pickF (btF rfl hc73) rfl) ?_
                  refine plan_weaken (L2 := [21, 12]) (by decide) ?_
                  exact hj75 _ _ _ h rfl
            · intro j70 hj70 h
              rcases bor s64 with hc68 | hc68
              · have h := h.1 hc68
                refine plan_pure (i := 8) (d := 76) (S2 := 511) (v := .pointer y16) rfl (by decide +kernel) (want_yes rfl rfl rfl hc68) (q_move e67_6) ?_
                refine plan_pure (i := 11) (d := 79) (S2 := 2559) (v := .pointer (some (a8.add 2))) rfl (by decide +kernel) (want_yes rfl rfl rfl hc68) (q_fieldAddr foff25_2 e67_5) ?_
                obtain ⟨x90, hx91, h⟩ := h
                refine plan_load (i := 12) (d := 80) (S2 := 6655) (v := .int .i64 x90) rfl (by decide +kernel) (want_yes rfl rfl rfl hc68) (q_load scalar3 rfl hx91) ?_
                refine plan_pure (i := 13) (d := 81) (S2 := 14847) (v := .int .i64 (IntKind.wrap .i64 (x90 - 2))) rfl (by decide +kernel) (want_yes rfl rfl rfl hc68) (q_sub rfl rfl) ?_
                refine plan_one (j := 9) (S2 := 15359) (by decide +kernel) rfl (by decide) (want_yes rfl rfl rfl hc68) ?_
                refine do_call2 body11 (geom_Geom_Half_s _ _ _ h) rfl ?_
                rintro _ H92 ⟨y93, rfl, h⟩
                obtain ⟨hr94, h⟩ := h
                refine ⟨⟨.inr ⟨_, _, rfl, rfl, q_load scalar3 rfl hr94⟩, trivial⟩, ?_⟩
                refine plan_pure (i := 10) (d := 78) (S2 := 16383) (v := .int .i64 (IntKind.wrap .i64 (2 * y93))) rfl (by decide +kernel) (want_yes rfl rfl rfl hc68) (q_mul rfl rfl) ?_
                refine plan_pure (i := 14) (d := 82) (S2 := 32767) (v := .bool (decide ((IntKind.wrap .i64 (2 * y93)) ≤ (IntKind.wrap .i64 (x90 - 2))))) rfl (by decide +kernel) (want_yes rfl rfl rfl hc68) (q_leq rfl rfl) ?_
                refine plan_pure (i := 15) (d := 83) (S2 := 65535) (v := .bool (decide ((IntKind.wrap .i64 (2 * y93)) ≤ (IntKind.wrap .i64 (x90 - 2))))) rfl (by decide +kernel) rfl (q_pickT (btT rfl hc68) rfl) ?_
                exact hj70 _ _ _ h ⟨e67_5, e67_6, rfl⟩
              · have h := h.2 hc68
                refine plan_skip (i := 8) (d := 76) (S2 := 511) rfl (by decide +kernel) (want_no rfl rfl rfl hc68) ?_
                refine plan_skip (i := 9) (d := 77) (S2 := 1023) rfl (by decide +kernel) (want_no rfl rfl rfl hc68) ?_
                refine plan_skip (i := 10) (d := 78) (S2 := 2047) rfl (by decide +kernel) (want_no rfl rfl rfl hc68) ?_
                refine plan_skip (i := 11) (d := 79) (S2 := 4095) rfl (by decide +kernel) (want_no rfl rfl rfl hc68) ?_
                refine plan_skip (i := 12) (d := 80) (S2 := 8191) rfl (by decide +kernel) (want_no rfl rfl rfl hc68) ?_
                refine plan_skip (i := 13) (d := 81) (S2 := 16383) rfl (by decide +kernel) (want_no rfl rfl rfl hc68) ?_
                refine plan_skip (i := 14) (d := 82) (S2 := 32767) rfl (by decide +kernel) (want_no rfl rfl rfl hc68) ?_
                refine plan_pure (i := 15) (d := 83) (S2 := 65535) (v := .bool false) rfl (by decide +kernel) rfl (q_pickF (btF rfl hc68) rfl) ?_
                refine plan_weaken (L2 := [12]) (by decide) ?_
                exact hj70 _ _ _ h ⟨e67_5, e67_6, rfl⟩
          · intro j65 hj65 h
            rcases bor s41.2.1 with hc63 | hc63
            · have h := h.1 hc63
              refine plan_skip (i := 2) (d := 70) (S2 := 7) rfl (by decide +kernel) (want_no rfl rfl rfl hc63) ?_
              refine plan_skip (i := 3) (d := 71) (S2 := 15) rfl (by decide +kernel) (want_no rfl rfl rfl hc63) ?_
              refine plan_skip (i := 4) (d := 72) (S2 := 31) rfl (by decide +kernel) (want_no rfl rfl rfl hc63) ?_
              refine plan_skip (i := 5) (d := 73) (S2 := 63) rfl (by decide +kernel) (want_no rfl rfl rfl hc63) ?_
              refine plan_pure (i := 6) (d := 74) (S2 := 127) (v := .bool true) rfl (by decide +kernel) rfl (q_pickT (btT rfl hc63) rfl) ?_
              exact hj65 _ _ _ h ⟨e43_5, e43_6, rfl⟩
            · have h := h.2 hc63
              refine plan_pure (i := 2) (d := 70) (S2 := 7) (v := .int .i64 s41.1) rfl (by decide +kernel) (want_yes rfl rfl rfl hc63) (q_move e43_8) ?_
              refine plan_pure (i := 3) (d := 71) (S2 := 15) (v := .pointer y16) rfl (by decide +kernel) (want_yes rfl rfl rfl hc63) (q_move e43_6) ?_
              refine plan_one (j := 4) (S2 := 31) (by decide +kernel) rfl (by decide) (want_yes rfl rfl rfl hc63) ?_
              refine do_call2 body12 (geom_Geom_Share_s _ _ _ h) rfl ?_
              rintro _ H95 ⟨y96, rfl, h⟩
              refine ⟨trivial, ?_⟩
              refine plan_pure (i := 5) (d := 73) (S2 := 63) (v := .bool (decide (y96 < s41.1))) rfl (by decide +kernel) (want_yes rfl rfl rfl hc63) (q_gtr rfl rfl) ?_
              refine plan_pure (i := 6) (d := 74) (S2 := 127) (v := .bool (decide (y96 < s41.1))) rfl (by decide +kernel) rfl (q_pickF (btF rfl hc63) rfl) ?_
              exact hj65 _ _ _ h ⟨e43_5, e43_6, rfl⟩
    · intro j25 hj25 h
      rcases bor s19 with hc23 | hc23
      · have h := h.1 hc23
        refine no_dst (want_no rfl rfl rfl hc23) rfl (by decide) ?_
        refine no_dst (want_no rfl rfl rfl hc23) rfl (by decide) ?_
        refine no_dst (want_no rfl rfl rfl hc23) rfl (by decide) ?_
        refine no_dst (want_no rfl rfl rfl hc23) rfl (by decide) ?_
        refine no_dst (want_no rfl rfl rfl hc23) rfl (by decide) ?_
        refine no_dst (want_no rfl rfl rfl hc23) rfl (by decide) ?_
        refine no_dst (want_no rfl rfl rfl hc23) rfl (by decide) ?_
        refine GoOps.q (v := .bool true) rfl rfl (by decide) (q_pickT (btT rfl hc23) rfl) ?_
        exact hj25 _ _ _ h ⟨e22_1, e22_5, e22_6, e22_7, rfl⟩
      · have h := h.2 hc23
        refine GoOps.q (v := Sl.v p1) (want_yes rfl rfl rfl hc23) rfl (by decide) (q_move e22_1) ?_
        refine GoOps.q (v := .int .i64 (p1.len : Int)) (want_yes rfl rfl rfl hc23) rfl (by decide) (q_len Try.underlying23 rfl (ls1 rfl)) ?_
        refine GoOps.q (v := .pointer (some (a8.add 1))) (want_yes rfl rfl rfl hc23) rfl (by decide) (q_fieldAddr foff25_1 e22_5) ?_
        obtain ⟨x97, hx98, h⟩ := h
        refine GoOps.q (v := .int .i64 x97) (want_yes rfl rfl rfl hc23) rfl (by decide) (q_load scalar3 rfl hx98) ?_
        refine GoOps.q (v := .int .i64 (IntKind.wrap .i64 (x97 - 2))) (want_yes rfl rfl rfl hc23) rfl (by decide) (q_sub rfl rfl) ?_
        refine GoOps.q (v := .int .i64 (IntKind.wrap .i64 ((IntKind.wrap .i64 (x97 - 2)) - 1))) (want_yes rfl rfl rfl hc23) rfl (by decide) (q_sub rfl rfl) ?_
        refine GoOps.q (v := .bool (decide ((p1.len : Int) < (IntKind.wrap .i64 ((IntKind.wrap .i64 (x97 - 2)) - 1))))) (want_yes rfl rfl rfl hc23) rfl (by decide) (q_lss rfl rfl) ?_
        refine GoOps.q (v := .bool (decide ((p1.len : Int) < (IntKind.wrap .i64 ((IntKind.wrap .i64 (x97 - 2)) - 1))))) rfl rfl (by decide) (q_pickF (btF rfl hc23) rfl) ?_
        exact hj25 _ _ _ h ⟨e22_1, e22_5, e22_6, e22_7, rfl⟩
  · intro j20 hj20 h
    rcases bor (y17 != 0) with hc18 | hc18
    · have h := h.1 hc18
      refine no_dst (want_no rfl rfl rfl hc18) rfl (by decide) ?_
      refine no_dst (want_no rfl rfl rfl hc18) rfl (by decide) ?_
      refine GoOps.q (v := .bool true) rfl rfl (by decide) (q_pickT (btT rfl hc18) rfl) ?_
      exact hj20 _ _ _ h ⟨rfl, rfl, rfl, rfl, rfl⟩
    · have h := h.2 hc18
      refine GoOps.q (v := .pointer y16) (want_yes rfl rfl rfl hc18) rfl (by decide) (q_move rfl) ?_
      refine GoOps.q (v := .bool (Option.isNone y16)) (want_yes rfl rfl rfl hc18) rfl (by decide) (q_eqlPn Try.underlying27 rfl rfl) ?_
      refine GoOps.q (v := .bool (Option.isNone y16)) rfl rfl (by decide) (q_pickF (btF rfl hc18) rfl) ?_
      exact hj20 _ _ _ h ⟨rfl, rfl, rfl, rfl, rfl⟩

/-- (*keelson.geom.Geom).Where -/
def geom_Geom_Where (p0 : Option Addr) (p1 : Int) (H : PH) (Q : Int → Int → Bool → PH → Prop) : Prop :=
  mJoin (fun (s2 : Bool) (H4 : PH) =>
  mIf s2
  (Q 0 0 false H4)
  (geom_Geom_segs p0 H4 fun y8 H7 =>
  mNil p0 fun a9 =>
  mLd (.int .i64) H7 ((a9.add 0).add 2) fun x11 =>
  mNe x11 <|
  mNil p0 fun a14 =>
  mLd (.int .i64) H7 ((a14.add 0).add 2) fun x16 =>
  mNe x16 <|
  Q (IntKind.wrap .i64 (Int.tdiv (IntKind.wrap .i64 (p1 - y8)) x11)) (Int.tmod (IntKind.wrap .i64 (p1 - y8)) x16) true H7))
  fun j3 =>
  mIf (Option.isNone p0)
  (j3 true H)
  (geom_Geom_segs p0 H fun y20 H19 =>
  geom_Geom_Sectors p0 H19 fun y22 H21 =>
  geom_within p1 y20 (IntKind.wrap .i64 (y22 - 1)) H21 fun y24 H23 =>
  j3 (!y24) H23)

set_option maxRecDepth 20000 in
set_option maxHeartbeats 1000000 in
theorem geom_Geom_Where_s (p0 : Option Addr) (p1 : Int) (H : PH) (Q : Int → Int → Bool → PH → Prop) (h : geom_Geom_Where p0 p1 H Q) :
    CallsH Try.prog 14 #[.pointer p0, .int .i64 p1] H (fun v H' => ∃ (r0 : Int) (r1 : Int) (r2 : Bool), v = .tuple #[.int .i64 r0, .int .i64 r1, .bool r2] ∧ Q r0 r1 r2 H') := by
  unfold geom_Geom_Where at h
  refine callsH_of_go Try.func14 rfl Try.ntmps14 (Nat.le_of_ble_eq_true rfl) ?_
  refine Go.seq ?_
  refine Go.region rfl ?_
  refine GoOps.q (v := .int .i64 0) rfl rfl (by decide) (q_assign rfl) ?_
  refine GoOps.q (v := .int .i64 0) rfl rfl (by decide) (q_assign rfl) ?_
  refine GoOps.q (v := .bool false) rfl rfl (by decide) (q_assign rfl) ?_
  refine GoOps.nil ?_
  refine Go.seq ?_
  refine Go.seq ?_
  refine Go.region rfl ?_
  refine GoOps.q (v := .pointer p0) rfl rfl (by decide) (q_move rfl) ?_
  refine GoOps.q (v := .bool (Option.isNone p0)) rfl rfl (by decide) (q_eqlPn Try.underlying27 rfl rfl) ?_
  refine GoOps.q (v := .bool (Option.isNone p0)) rfl rfl (by decide) (q_move rfl) ?_
  refine join_ops 9 (fun ρ (s2 : Bool) => ρ 0 = .pointer p0 ∧ ρ 1 = .int .i64 p1 ∧ ρ 18 = .bool s2) h ?_ ?_ <;> clear h
  · intro s2 H4 ρ h hE
    obtain ⟨e5_0, e5_1, e5_18⟩ := hE
    refine GoOps.nil ?_
    rcases bor s2 with hc6 | hc6
    · have h := h.1 hc6
      refine Go.condT (btT e5_18 hc6) ?_
      refine Go.seq ?_
      refine Go.region rfl ?_
      refine GoOps.q (v := .int .i64 0) rfl rfl (by decide) (q_assign rfl) ?_
      refine GoOps.q (v := .int .i64 0) rfl rfl (by decide) (q_assign rfl) ?_
      refine GoOps.q (v := .bool false) rfl rfl (by decide) (q_assign rfl) ?_
      refine GoOps.nil ?_
      exact Go.ret ⟨.inl rfl, _, _, DOk.nil, (resOk3 Try.results14 rfl rfl rfl), ⟨_, _, _, rfl, h⟩⟩
    · have h := h.2 hc6
      refine Go.condF (btF e5_18 hc6) ?_
      refine Go.skip ?_
      refine Go.seq ?_
      refine Go.region rfl ?_
      refine GoOps.q (v := .int .i64 p1) rfl rfl (by decide) (q_move e5_1) ?_
      refine GoOps.q (v := .pointer p0) rfl rfl (by decide) (q_move e5_0) ?_
      refine call_dst rfl (by decide) body37 (geom_Geom_segs_s _ _ _ h) rfl ?_
      rintro _ H7 ⟨y8, rfl, h⟩
      refine GoOps.q (v := .int .i64 (IntKind.wrap .i64 (p1 - y8))) rfl rfl (by decide) (q_sub rfl rfl) ?_
      refine GoOps.q (v := .int .i64 (IntKind.wrap .i64 (p1 - y8))) rfl rfl (by decide) (q_assign rfl) ?_
      refine GoOps.nil ?_
      refine Go.seq ?_
      refine Go.draw mixed ?_
      refine plan_pure (i := 0) (d := 23) (S2 := 1) (v := .int .i64 (IntKind.wrap .i64 (p1 - y8))) rfl (by decide +kernel) rfl (q_move rfl) ?_
      refine plan_pure (i := 1) (d := 24) (S2 := 3) (v := .pointer p0) rfl (by decide +kernel) rfl (q_move e5_0) ?_
      obtain ⟨a9, ha10, h⟩ := h
      refine plan_pure (i := 2) (d := 25) (S2 := 7) (v := .pointer (some a9)) rfl (by decide +kernel) rfl (q_nilCheck (ptn rfl ha10)) ?_
      refine plan_pure (i := 3) (d := 26) (S2 := 15) (v := .pointer (some (a9.add 0))) rfl (by decide +kernel) rfl (q_fieldAddr foff51_0 rfl) ?_
      refine plan_pure (i := 4) (d := 27) (S2 := 31) (v := .pointer (some ((a9.add 0).add 2))) rfl (by decide +kernel) rfl (q_fieldAddr foff25_2 rfl) ?_
      obtain ⟨x11, hx12, h⟩ := h
      refine plan_load (i := 5) (d := 28) (S2 := 63) (v := .int .i64 x11) rfl (by decide +kernel) rfl (q_load scalar3 rfl hx12) ?_
      obtain ⟨hn13, h⟩ := h
      refine plan_pure (i := 6) (d := 29) (S2 := 127) (v := .int .i64 (IntKind.wrap .i64 (Int.tdiv (IntKind.wrap .i64 (p1 - y8)) x11))) rfl (by decide +kernel) rfl (q_quo hn13 rfl rfl) ?_
      refine plan_pure (i := 7) (d := 30) (S2 := 255) (v := .int .i64 (IntKind.wrap .i64 (p1 - y8))) rfl (by decide +kernel) rfl (q_move rfl) ?_
      refine plan_pure (i := 8) (d := 31) (S2 := 511) (v := .pointer p0) rfl (by decide +kernel) rfl (q_move e5_0) ?_
      obtain ⟨a14, ha15, h⟩ := h
      refine plan_pure (i := 9) (d := 32) (S2 := 1023) (v := .pointer (some a14)) rfl (by decide +kernel) rfl (q_nilCheck (ptn rfl ha15)) ?_
      refine plan_pure (i := 10) (d := 33) (S2 := 2047) (v := .pointer (some (a14.add 0))) rfl (by decide +kernel) rfl (q_fieldAddr foff51_0 rfl) ?_
      refine plan_pure (i := 11) (d := 34) (S2 := 4095) (v := .pointer (some ((a14.add 0).add 2))) rfl (by decide +kernel) rfl (q_fieldAddr foff25_2 rfl) ?_
      obtain ⟨x16, hx17, h⟩ := h
      refine plan_load (i := 12) (d := 35) (S2 := 8191) (v := .int .i64 x16) rfl (by decide +kernel) rfl (q_load scalar3 rfl hx17) ?_
      obtain ⟨hn18, h⟩ := h
      refine plan_pure (i := 13) (d := 36) (S2 := 16383) (v := .int .i64 (Int.tmod (IntKind.wrap .i64 (p1 - y8)) x16)) rfl (by decide +kernel) rfl (q_rem hn18 rfl rfl) ?_
      refine plan_pure (i := 14) (d := 4) (S2 := 32767) (v := .int .i64 (IntKind.wrap .i64 (Int.tdiv (IntKind.wrap .i64 (p1 - y8)) x11))) rfl (by decide +kernel) rfl (q_assign rfl) ?_
      refine plan_pure (i := 15) (d := 5) (S2 := 65535) (v := .int .i64 (Int.tmod (IntKind.wrap .i64 (p1 - y8)) x16)) rfl (by decide +kernel) rfl (q_assign rfl) ?_
      refine plan_pure (i := 16) (d := 6) (S2 := 131071) (v := .bool true) rfl (by decide +kernel) rfl (q_assign rfl) ?_
      refine plan_done (by decide +kernel) ?_
      exact Go.ret ⟨.inl rfl, _, _, DOk.nil, (resOk3 Try.results14 rfl rfl rfl), ⟨_, _, _, rfl, h⟩⟩
  · intro j3 hj3 h
    rcases bor (Option.isNone p0) with hc1 | hc1
    · have h := h.1 hc1
      refine no_dst (want_no rfl rfl rfl hc1) rfl (by decide) ?_
      refine no_dst (want_no rfl rfl rfl hc1) rfl (by decide) ?_
      refine no_dst (want_no rfl rfl rfl hc1) rfl (by decide) ?_
      refine no_dst (want_no rfl rfl rfl hc1) rfl (by decide) ?_
      refine no_dst (want_no rfl rfl rfl hc1) rfl (by decide) ?_
      refine no_dst (want_no rfl rfl rfl hc1) rfl (by decide) ?_
      refine no_dst (want_no rfl rfl rfl hc1) rfl (by decide) ?_
      refine no_dst (want_no rfl rfl rfl hc1) rfl (by decide) ?_
      refine GoOps.q (v := .bool true) rfl rfl (by decide) (q_pickT (btT rfl hc1) rfl) ?_
      exact hj3 _ _ _ h ⟨rfl, rfl, rfl⟩
    · have h := h.2 hc1
      refine GoOps.q (v := .int .i64 p1) (want_yes rfl rfl rfl hc1) rfl (by decide) (q_move rfl) ?_
      refine GoOps.q (v := .pointer p0) (want_yes rfl rfl rfl hc1) rfl (by decide) (q_move rfl) ?_
      refine call_dst (want_yes rfl rfl rfl hc1) (by decide) body37 (geom_Geom_segs_s _ _ _ h) rfl ?_
      rintro _ H19 ⟨y20, rfl, h⟩
      refine GoOps.q (v := .pointer p0) (want_yes rfl rfl rfl hc1) rfl (by decide) (q_move rfl) ?_
      refine call_dst (want_yes rfl rfl rfl hc1) (by decide) body15 (geom_Geom_Sectors_s _ _ _ h) rfl ?_
      rintro _ H21 ⟨y22, rfl, h⟩
      refine GoOps.q (v := .int .i64 (IntKind.wrap .i64 (y22 - 1))) (want_yes rfl rfl rfl hc1) rfl (by decide) (q_sub rfl rfl) ?_
      refine call_dst (want_yes rfl rfl rfl hc1) (by decide) body34 (geom_within_s _ _ _ _ _ h) rfl ?_
      rintro _ H23 ⟨y24, rfl, h⟩
      refine GoOps.q (v := .bool (!y24)) (want_yes rfl rfl rfl hc1) rfl (by decide) (q_not rfl) ?_
      refine GoOps.q (v := .bool (!y24)) rfl rfl (by decide) (q_pickF (btF rfl hc1) rfl) ?_
      exact hj3 _ _ _ h ⟨rfl, rfl, rfl⟩

/-- keelson.keelsonlaw4.GeomWhere -/
def keelsonlaw4_GeomWhere (p0 : (Int × Int × Int)) (p1 : Int) (p2 : Int) (H : PH) (Q : Bool → PH → Prop) : Prop :=
  mNew H (row [.int .i64 p0.1, .int .i64 p0.2.1, .int .i64 p0.2.2] 22) fun a1 H2 =>
  mLdR (fun (x : (Int × Int × Int)) => [.int .i64 x.1, .int .i64 x.2.1, .int .i64 x.2.2]) H2 a1 3 fun x4 =>
  keelsonalike_Config (x4.1, x4.2.1, x4.2.2) false H2 fun y7 H6 =>
  mNew H6 (row [.int .i64 0, .int .i64 0, .int .i64 0] 25) fun a8 H9 =>
  mSt H9 a8 ([.int .i64 y7.1, .int .i64 y7.2.1, .int .i64 y7.2.2]) fun H11 =>
  mLdR (fun (x : (Int × Int × Int)) => [.int .i64 x.1, .int .i64 x.2.1, .int .i64 x.2.2]) H11 a8 3 fun x13 =>
  geom_New (x13.1, x13.2.1, x13.2.2) H11 fun y16 y17 H15 =>
  mJoin (fun (s19 : Bool) (H21 : PH) =>
  mIf s19
  (Q false H21)
  (geom_Geom_Seg y16 0 H21 fun y25 H24 =>
  mIf (decide (y25 < 1))
  (Q false H24)
  (mLd (.int .i64) H24 (a8.add 1) fun x27 =>
  mLd (.int .i64) H24 (a8.add 2) fun x29 =>
  keelsonalike_Round p1 x27 H24 fun y32 H31 =>
  mSame H31 (a8.add 2) (.int .i64 x29) <|
  keelsonalike_Round p2 x29 H31 fun y35 H34 =>
  geom_Geom_Seg y16 y32 H34 fun y37 H36 =>
  geom_Geom_Where y16 (IntKind.wrap .i64 (y37 + y35)) H36 fun y39 y40 y41 H38 =>
  geom_Geom_Seg y16 0 H38 fun y43 H42 =>
  keelsonalike_Round p2 y43 H42 fun y45 H44 =>
  geom_Geom_Where y16 y45 H44 fun y47 y48 y49 H46 =>
  geom_Geom_Sectors y16 H46 fun y51 H50 =>
  keelsonalike_Round p1 1000 H50 fun y53 H52 =>
  geom_Geom_Where y16 (IntKind.wrap .i64 (y51 + y53)) H52 fun y55 y56 y57 H54 =>
  keelsonalike_Round p1 1000 H54 fun y59 H58 =>
  geom_Geom_Where y16 (IntKind.wrap .i64 ((-1) - y59)) H58 fun y61 y62 y63 H60 =>
  mJoin (fun (s65 : Bool) (H67 : PH) =>
  mJoin (fun (s70 : Bool) (H72 : PH) =>
  mJoin (fun (s75 : Bool) (H77 : PH) =>
  mJoin (fun (s80 : Bool) (H82 : PH) =>
  mJoin (fun (s85 : Bool) (H87 : PH) =>
  mJoin (fun (s90 : Bool) (H92 : PH) =>
  Q s90 H92)
  fun j91 =>
  mIf s85
  (keelsonlaw4_awake H87 fun y95 H94 =>
  j91 y95 H94)
  (j91 false H87))
  fun j86 =>
  mIf s80
  (j86 (!y63) H82)
  (j86 false H82))
  fun j81 =>
  mIf s75
  (j81 (!y57) H77)
  (j81 false H77))
  fun j76 =>
  mIf s70
  (j76 (!y49) H72)
  (j76 false H72))
  fun j71 =>
  mIf s65
  (j71 (y40 == y35) H67)
  (j71 false H67))
  fun j66 =>
  mIf y41
  (j66 (y39 == y32) H60)
  (j66 false H60))))
  fun j20 =>
  mIf (y17 != 0)
  (j20 true H15)
  (j20 (Option.isNone y16) H15)

set_option maxRecDepth 20000 in
set_option maxHeartbeats 1000000 in
theorem keelsonlaw4_GeomWhere_s (p0 : (Int × Int × Int)) (p1 : Int) (p2 : Int) (H : PH) (Q : Bool → PH → Prop) (h : keelsonlaw4_GeomWhere p0 p1 p2 H Q) :
    CallsH Try.prog 4 #[.agg ([.int .i64 p0.1, .int .i64 p0.2.1, .int .i64 p0.2.2] : List Value).toArray, .int .i64 p1, .int .i64 p2] H (fun v H' => ∃ (r0 : Bool), v = .bool r0 ∧ Q r0 H') := by
  unfold keelsonlaw4_GeomWhere at h
  refine callsH_of_go Try.func4 rfl Try.ntmps4 (Nat.le_of_ble_eq_true rfl) ?_
  refine Go.seq ?_
  refine Go.region rfl ?_
  refine op_dst rfl rfl (by decide) (do_newBox (cs := [.int .i64 p0.1, .int .i64 p0.2.1, .int .i64 p0.2.2]) rfl rfl fun a1 H2 hb3 => ?_) 
  have h := h a1 H2 hb3
  refine GoOps.q (v := .bool false) rfl rfl (by decide) (q_assign rfl) ?_
  refine GoOps.nil ?_
  refine Go.seq ?_
  refine Go.region rfl ?_
  obtain ⟨x4, hx5, h⟩ := h
  refine GoOps.q (v := .agg ([.int .i64 x4.1, .int .i64 x4.2.1, .int .i64 x4.2.2] : List Value).toArray) rfl rfl (by decide) (q_loadA aggr22 rfl hx5) ?_
  refine call_dst rfl (by decide) body7 (keelsonalike_Config_s _ _ _ _ h) rfl ?_
  rintro _ H6 ⟨y7, rfl, h⟩
  refine op_dst rfl rfl (by decide) (do_new zero25 rfl fun a8 H9 hb10 => ?_) 
  have h := h a8 H9 hb10
  obtain ⟨q12b, q12o, q12c, q12e, hq12a, hq12b, hq12l, hq12v, h⟩ := h
  refine op_none rfl rfl (do_store (vs := [.int .i64 y7.1, .int .i64 y7.2.1, .int .i64 y7.2.2]) size25 (pta rfl hq12a) rfl rfl rfl hq12v hq12b hq12l ?_) 
  refine GoOps.nil ?_
  refine Go.seq ?_
  refine Go.region rfl ?_
  obtain ⟨x13, hx14, h⟩ := h
  refine GoOps.q (v := .agg ([.int .i64 x13.1, .int .i64 x13.2.1, .int .i64 x13.2.2] : List Value).toArray) rfl rfl (by decide) (q_loadA aggr25 rfl hx14) ?_
  refine call_dst rfl (by decide) body8 (geom_New_s _ _ _ h) rfl ?_
  rintro _ H15 ⟨y16, y17, rfl, h⟩
  refine GoOps.q (v := .tuple #[.pointer y16, .int .i64 y17]) rfl rfl (by decide) (q_move rfl) ?_
  refine GoOps.q (v := .pointer y16) rfl rfl (by decide) (q_extract rfl rfl) ?_
  refine GoOps.q (v := .int .i64 y17) rfl rfl (by decide) (q_extract rfl rfl) ?_
  refine GoOps.q (v := .pointer y16) rfl rfl (by decide) (q_assign rfl) ?_
  refine GoOps.q (v := .int .i64 y17) rfl rfl (by decide) (q_assign rfl) ?_
  refine GoOps.nil ?_
  refine Go.seq ?_
  refine Go.seq ?_
  refine Go.region rfl ?_
  refine GoOps.q (v := .int .i64 y17) rfl rfl (by decide) (q_move rfl) ?_
  refine GoOps.q (v := .bool (y17 != 0)) rfl rfl (by decide) (q_neq rfl rfl) ?_
  refine GoOps.q (v := .bool (y17 != 0)) rfl rfl (by decide) (q_move rfl) ?_
  refine join_ops 3 (fun ρ (s19 : Bool) => ρ 1 = .int .i64 p1 ∧ ρ 2 = .int .i64 p2 ∧ ρ 7 = .pointer (some a8) ∧ ρ 8 = .pointer y16 ∧ ρ 36 = .bool s19) h ?_ ?_ <;> clear h
  · intro s19 H21 ρ h hE
    obtain ⟨e22_1, e22_2, e22_7, e22_8, e22_36⟩ := hE
    refine GoOps.nil ?_
    rcases bor s19 with hc23 | hc23
    · have h := h.1 hc23
      refine Go.condT (btT e22_36 hc23) ?_
      refine Go.seq ?_
      refine Go.region rfl ?_
      refine GoOps.q (v := .bool false) rfl rfl (by decide) (q_assign rfl) ?_
      refine GoOps.nil ?_
      exact Go.ret ⟨.inl rfl, _, _, DOk.nil, (resOk1 Try.results4 rfl), ⟨_, rfl, h⟩⟩
    · have h := h.2 hc23
      refine Go.condF (btF e22_36 hc23) ?_
      refine Go.skip ?_
      refine Go.seq ?_
      refine Go.seq ?_
      refine Go.region rfl ?_
      refine GoOps.q (v := .pointer y16) rfl rfl (by decide) (q_move e22_8) ?_
      refine call_dst rfl (by decide) body13 (geom_Geom_Seg_s _ _ _ _ h) rfl ?_
      rintro _ H24 ⟨y25, rfl, h⟩
      refine GoOps.q (v := .bool (decide (y25 < 1))) rfl rfl (by decide) (q_lss rfl rfl) ?_
      refine GoOps.nil ?_
      rcases bor (decide (y25 < 1)) with hc26 | hc26
      · have h := h.1 hc26
        refine Go.condT (btT rfl hc26) ?_
        refine Go.seq ?_
        refine Go.region rfl ?_
        refine GoOps.q (v := .bool false) rfl rfl (by decide) (q_assign rfl) ?_
        refine GoOps.nil ?_
        exact Go.ret ⟨.inl rfl, _, _, DOk.nil, (resOk1 Try.results4 rfl), ⟨_, rfl, h⟩⟩
      · have h := h.2 hc26
        refine Go.condF (btF rfl hc26) ?_
        refine Go.skip ?_
        refine Go.seq ?_
        refine Go.draw mixed ?_
        refine plan_pure (i := 0) (d := 40) (S2 := 1) (v := .int .i64 p1) rfl (by decide +kernel) rfl (q_move e22_1) ?_
        refine plan_pure (i := 1) (d := 41) (S2 := 3) (v := .pointer (some (a8.add 1))) rfl (by decide +kernel) rfl (q_fieldAddr foff25_1 e22_7) ?_
        obtain ⟨x27, hx28, h⟩ := h
        refine plan_load (i := 2) (d := 42) (S2 := 7) (v := .int .i64 x27) rfl (by decide +kernel) rfl (q_load scalar3 rfl hx28) ?_
        refine plan_pure (i := 4) (d := 44) (S2 := 23) (v := .int .i64 p2) rfl (by decide +kernel) rfl (q_move e22_2) ?_
        refine plan_pure (i := 5) (d := 45) (S2 := 55) (v := .pointer (some (a8.add 2))) rfl (by decide +kernel) rfl (q_fieldAddr foff25_2 e22_7) ?_
        obtain ⟨x29, hx30, h⟩ := h
        refine plan_load (i := 6) (d := 46) (S2 := 119) (v := .int .i64 x29) rfl (by decide +kernel) rfl (q_load scalar3 rfl hx30) ?_
        refine plan_one (j := 3) (S2 := 127) (by decide +kernel) rfl (by decide) rfl ?_
        refine do_call2 body10 (keelsonalike_Round_s _ _ _ _ h) rfl ?_
        rintro _ H31 ⟨y32, rfl, h⟩
        obtain ⟨hr33, h⟩ := h
        refine ⟨⟨.inr ⟨_, _, rfl, rfl, q_load scalar3 rfl hr33⟩, .inl ⟨[3], by decide +kernel, rfl⟩, trivial⟩, ?_⟩
        refine plan_one (j := 7) (S2 := 255) (by decide +kernel) rfl (by decide) rfl ?_
        refine do_call2 body10 (keelsonalike_Round_s _ _ _ _ h) rfl ?_
        rintro _ H34 ⟨y35, rfl, h⟩
        refine ⟨⟨.inl ⟨[7], by decide +kernel, rfl⟩, .inl ⟨[3, 7], by decide +kernel, rfl⟩, trivial⟩, ?_⟩
        refine plan_pure (i := 8) (d := 10) (S2 := 511) (v := .int .i64 y32) rfl (by decide +kernel) rfl (q_assign rfl) ?_
        refine plan_pure (i := 9) (d := 11) (S2 := 1023) (v := .int .i64 y35) rfl (by decide +kernel) rfl (q_assign rfl) ?_
        refine plan_done (by decide +kernel) ?_
        refine Go.seq ?_
        refine Go.region rfl ?_
        refine GoOps.q (v := .pointer y16) rfl rfl (by decide) (q_move e22_8) ?_
        refine GoOps.q (v := .pointer y16) rfl rfl (by decide) (q_move e22_8) ?_
        refine GoOps.q (v := .int .i64 y32) rfl rfl (by decide) (q_move rfl) ?_
        refine call_dst rfl (by decide) body13 (geom_Geom_Seg_s _ _ _ _ h) rfl ?_
        rintro _ H36 ⟨y37, rfl, h⟩
        refine GoOps.q (v := .int .i64 y35) rfl rfl (by decide) (q_move rfl) ?_
        refine GoOps.q (v := .int .i64 (IntKind.wrap .i64 (y37 + y35))) rfl rfl (by decide) (q_add rfl rfl) ?_
        refine call_dst rfl (by decide) body14 (geom_Geom_Where_s _ _ _ _ h) rfl ?_
        rintro _ H38 ⟨y39, y40, y41, rfl, h⟩
        refine GoOps.q (v := .tuple #[.int .i64 y39, .int .i64 y40, .bool y41]) rfl rfl (by decide) (q_move rfl) ?_
        refine GoOps.q (v := .int .i64 y39) rfl rfl (by decide) (q_extract rfl rfl) ?_
        refine GoOps.q (v := .int .i64 y40) rfl rfl (by decide) (q_extract rfl rfl) ?_
        refine GoOps.q (v := .bool y41) rfl rfl (by decide) (q_extract rfl rfl) ?_
        refine GoOps.q (v := .int .i64 y39) rfl rfl (by decide) (q_assign rfl) ?_
        refine GoOps.q (v := .int .i64 y40) rfl rfl (by decide) (q_assign rfl) ?_
        refine GoOps.q (v := .bool y41) rfl rfl (by decide) (q_assign rfl) ?_
        refine GoOps.nil ?_
        refine Go.seq ?_
        refine Go.region rfl ?_
        refine GoOps.q (v := .pointer y16) rfl rfl (by decide) (q_move e22_8) ?_
        refine GoOps.q (v := .int .i64 p2) rfl rfl (by decide) (q_move e22_2) ?_
        refine GoOps.q (v := .pointer y16) rfl rfl (by decide) (q_move e22_8) ?_
        refine call_dst rfl (by decide) body13 (geom_Geom_Seg_s _ _ _ _ h) rfl ?_
        rintro _ H42 ⟨y43, rfl, h⟩
        refine call_dst rfl (by decide) body10 (keelsonalike_Round_s _ _ _ _ h) rfl ?_
        rintro _ H44 ⟨y45, rfl, h⟩
        refine call_dst rfl (by decide) body14 (geom_Geom_Where_s _ _ _ _ h) rfl ?_
        rintro _ H46 ⟨y47, y48, y49, rfl, h⟩
        refine GoOps.q (v := .tuple #[.int .i64 y47, .int .i64 y48, .bool y49]) rfl rfl (by decide) (q_move rfl) ?_
        refine GoOps.q (v := .int .i64 y47) rfl rfl (by decide) (q_extract rfl rfl) ?_
        refine GoOps.q (v := .int .i64 y48) rfl rfl (by decide) (q_extract rfl rfl) ?_
        refine GoOps.q (v := .bool y49) rfl rfl (by decide) (q_extract rfl rfl) ?_
        refine GoOps.q (v := .int .i64 y47) rfl rfl (by decide) (q_assign rfl) ?_
        refine GoOps.q (v := .int .i64 y48) rfl rfl (by decide) (q_assign rfl) ?_
        refine GoOps.q (v := .bool y49) rfl rfl (by decide) (q_assign rfl) ?_
        refine GoOps.nil ?_
        refine Go.seq ?_
        refine Go.region rfl ?_
        refine GoOps.q (v := .pointer y16) rfl rfl (by decide) (q_move e22_8) ?_
        refine GoOps.q (v := .pointer y16) rfl rfl (by decide) (q_move e22_8) ?_
        refine call_dst rfl (by decide) body15 (geom_Geom_Sectors_s _ _ _ h) rfl ?_
        rintro _ H50 ⟨y51, rfl, h⟩
        refine GoOps.q (v := .int .i64 p1) rfl rfl (by decide) (q_move e22_1) ?_
        refine call_dst rfl (by decide) body10 (keelsonalike_Round_s _ _ _ _ h) rfl ?_
        rintro _ H52 ⟨y53, rfl, h⟩
        refine GoOps.q (v := .int .i64 (IntKind.wrap .i64 (y51 + y53))) rfl rfl (by decide) (q_add rfl rfl) ?_
        refine call_dst rfl (by decide) body14 (geom_Geom_Where_s _ _ _ _ h) rfl ?_
        rintro _ H54 ⟨y55, y56, y57, rfl, h⟩
        refine GoOps.q (v := .tuple #[.int .i64 y55, .int .i64 y56, .bool y57]) rfl rfl (by decide) (q_move rfl) ?_
        refine GoOps.q (v := .int .i64 y55) rfl rfl (by decide) (q_extract rfl rfl) ?_
        refine GoOps.q (v := .int .i64 y56) rfl rfl (by decide) (q_extract rfl rfl) ?_
        refine GoOps.q (v := .bool y57) rfl rfl (by decide) (q_extract rfl rfl) ?_
        refine GoOps.q (v := .int .i64 y55) rfl rfl (by decide) (q_assign rfl) ?_
        refine GoOps.q (v := .int .i64 y56) rfl rfl (by decide) (q_assign rfl) ?_
        refine GoOps.q (v := .bool y57) rfl rfl (by decide) (q_assign rfl) ?_
        refine GoOps.nil ?_
        refine Go.seq ?_
        refine Go.region rfl ?_
        refine GoOps.q (v := .pointer y16) rfl rfl (by decide) (q_move e22_8) ?_
        refine GoOps.q (v := .int .i64 p1) rfl rfl (by decide) (q_move e22_1) ?_
        refine call_dst rfl (by decide) body10 (keelsonalike_Round_s _ _ _ _ h) rfl ?_
        rintro _ H58 ⟨y59, rfl, h⟩
        refine GoOps.q (v := .int .i64 (IntKind.wrap .i64 ((-1) - y59))) rfl rfl (by decide) (q_sub rfl rfl) ?_
        refine call_dst rfl (by decide) body14 (geom_Geom_Where_s _ _ _ _ h) rfl ?_
        rintro _ H60 ⟨y61, y62, y63, rfl, h⟩
        refine GoOps.q (v := .tuple #[.int .i64 y61, .int .i64 y62, .bool y63]) rfl rfl (by decide) (q_move rfl) ?_
        refine GoOps.q (v := .int .i64 y61) rfl rfl (by decide) (q_extract rfl rfl) ?_
        refine GoOps.q (v := .int .i64 y62) rfl rfl (by decide) (q_extract rfl rfl) ?_
        refine GoOps.q (v := .bool y63) rfl rfl (by decide) (q_extract rfl rfl) ?_
        refine GoOps.q (v := .int .i64 y61) rfl rfl (by decide) (q_assign rfl) ?_
        refine GoOps.q (v := .int .i64 y62) rfl rfl (by decide) (q_assign rfl) ?_
        refine GoOps.q (v := .bool y63) rfl rfl (by decide) (q_assign rfl) ?_
        refine GoOps.nil ?_
        refine Go.seq ?_
        refine Go.region rfl ?_
        refine GoOps.q (v := .bool y41) rfl rfl (by decide) (q_move rfl) ?_
        refine GoOps.q (v := .bool y41) rfl rfl (by decide) (q_move rfl) ?_
        refine join_ops 4 (fun ρ (s65 : Bool) => ρ 11 = .int .i64 y35 ∧ ρ 13 = .int .i64 y40 ∧ ρ 17 = .bool y49 ∧ ρ 20 = .bool y57 ∧ ρ 23 = .bool y63 ∧ ρ 94 = .bool s65) h ?_ ?_ <;> clear h
        · intro s65 H67 ρ h hE
          obtain ⟨e68_11, e68_13, e68_17, e68_20, e68_23, e68_94⟩ := hE
          refine GoOps.q (v := .bool s65) rfl rfl (by decide) (q_move e68_94) ?_
          refine join_ops 4 (fun ρ (s70 : Bool) => ρ 17 = .bool y49 ∧ ρ 20 = .bool y57 ∧ ρ 23 = .bool y63 ∧ ρ 99 = .bool s70) h ?_ ?_ <;> clear h
          · intro s70 H72 ρ h hE
            obtain ⟨e73_17, e73_20, e73_23, e73_99⟩ := hE
            refine GoOps.q (v := .bool s70) rfl rfl (by decide) (q_move e73_99) ?_
            refine join_ops 3 (fun ρ (s75 : Bool) => ρ 20 = .bool y57 ∧ ρ 23 = .bool y63 ∧ ρ 103 = .bool s75) h ?_ ?_ <;> clear h
            · intro s75 H77 ρ h hE
              obtain ⟨e78_20, e78_23, e78_103⟩ := hE
              refine GoOps.q (v := .bool s75) rfl rfl (by decide) (q_move e78_103) ?_
              refine join_ops 3 (fun ρ (s80 : Bool) => ρ 23 = .bool y63 ∧ ρ 107 = .bool s80) h ?_ ?_ <;> clear h
              · intro s80 H82 ρ h hE
                obtain ⟨e83_23, e83_107⟩ := hE
                refine GoOps.q (v := .bool s80) rfl rfl (by decide) (q_move e83_107) ?_
                refine join_ops 3 (fun ρ (s85 : Bool) => ρ 111 = .bool s85) h ?_ ?_ <;> clear h
                · intro s85 H87 ρ h hE
                  have e88_111 := hE
                  refine GoOps.q (v := .bool s85) rfl rfl (by decide) (q_move e88_111) ?_
                  refine join_ops 2 (fun ρ (s90 : Bool) => ρ 114 = .bool s90) h ?_ ?_ <;> clear h
                  · intro s90 H92 ρ h hE
                    have e93_114 := hE
                    refine GoOps.q (v := .bool s90) rfl rfl (by decide) (q_assign e93_114) ?_
                    refine GoOps.nil ?_
                    exact Go.ret ⟨.inl rfl, _, _, DOk.nil, (resOk1 Try.results4 rfl), ⟨_, rfl, h⟩⟩
                  · intro j91 hj91 h
                    rcases bor s85 with hc89 | hc89
                    · have h := h.1 hc89
                      refine call_dst (want_yes rfl rfl rfl hc89) (by decide) body9 (keelsonlaw4_awake_s _ _ h) rfl ?_
                      rintro _ H94 ⟨y95, rfl, h⟩
                      refine GoOps.q (v := .bool y95) rfl rfl (by decide) (q_pickT (btT rfl hc89) rfl) ?_
                      exact hj91 _ _ _ h rfl
                    · have h := h.2 hc89
                      refine no_dst (want_no rfl rfl rfl hc89) rfl (by decide) ?_
                      refine GoOps.q (v := .bool false) rfl rfl (by decide) (q_pickF (btF rfl hc89) rfl) ?_
                      exact hj91 _ _ _ h rfl
                · intro j86 hj86 h
                  rcases bor s80 with hc84 | hc84
                  · have h := h.1 hc84
                    refine GoOps.q (v := .bool y63) (want_yes rfl rfl rfl hc84) rfl (by decide) (q_move e83_23) ?_
                    refine GoOps.q (v := .bool (!y63)) (want_yes rfl rfl rfl hc84) rfl (by decide) (q_not rfl) ?_
                    refine GoOps.q (v := .bool (!y63)) rfl rfl (by decide) (q_pickT (btT rfl hc84) rfl) ?_
                    exact hj86 _ _ _ h rfl
                  · have h := h.2 hc84
                    refine no_dst (want_no rfl rfl rfl hc84) rfl (by decide) ?_
                    refine no_dst (want_no rfl rfl rfl hc84) rfl (by decide) ?_
                    refine GoOps.q (v := .bool false) rfl rfl (by decide) (q_pickF (btF rfl hc84) rfl) ?_
                    exact hj86 _ _ _ h rfl
              · intro j81 hj81 h
                rcases bor s75 with hc79 | hc79
                · have h := h.1 hc79
                  refine GoOps.q (v := .bool y57) (want_yes rfl rfl rfl hc79) rfl (by decide) (q_move e78_20) ?_
                  refine GoOps.q (v := .bool (!y57)) (want_yes rfl rfl rfl hc79) rfl (by decide) (q_not rfl) ?_
                  refine GoOps.q (v := .bool (!y57)) rfl rfl (by decide) (q_pickT (btT rfl hc79) rfl) ?_
                  exact hj81 _ _ _ h ⟨e78_23, rfl⟩
                · have h := h.2 hc79
                  refine no_dst (want_no rfl rfl rfl hc79) rfl (by decide) ?_
                  refine no_dst (want_no rfl rfl rfl hc79) rfl (by decide) ?_
                  refine GoOps.q (v := .bool false) rfl rfl (by decide) (q_pickF (btF rfl hc79) rfl) ?_
                  exact hj81 _ _ _ h ⟨e78_23, rfl⟩
            · intro j76 hj76 h
              rcases bor s70 with hc74 | hc74
              · have h := h.1 hc74
                refine GoOps.q (v := .bool y49) (want_yes rfl rfl rfl hc74) rfl (by decide) (q_move e73_17) ?_
                refine GoOps.q (v := .bool (!y49)) (want_yes rfl rfl rfl hc74) rfl (by decide) (q_not rfl) ?_
                refine GoOps.q (v := .bool (!y49)) rfl rfl (by decide) (q_pickT (btT rfl hc74) rfl) ?_
                exact hj76 _ _ _ h ⟨e73_20, e73_23, rfl⟩
              · have h := h.2 hc74
                refine no_dst (want_no rfl rfl rfl hc74) rfl (by decide) ?_
                refine no_dst (want_no rfl rfl rfl hc74) rfl (by decide) ?_
                refine GoOps.q (v := .bool false) rfl rfl (by decide) (q_pickF (btF rfl hc74) rfl) ?_
                exact hj76 _ _ _ h ⟨e73_20, e73_23, rfl⟩
          · intro j71 hj71 h
            rcases bor s65 with hc69 | hc69
            · have h := h.1 hc69
              refine GoOps.q (v := .int .i64 y40) (want_yes rfl rfl rfl hc69) rfl (by decide) (q_move e68_13) ?_
              refine GoOps.q (v := .int .i64 y35) (want_yes rfl rfl rfl hc69) rfl (by decide) (q_move e68_11) ?_
              refine GoOps.q (v := .bool (y40 == y35)) (want_yes rfl rfl rfl hc69) rfl (by decide) (q_eql rfl rfl) ?_
              refine GoOps.q (v := .bool (y40 == y35)) rfl rfl (by decide) (q_pickT (btT rfl hc69) rfl) ?_
              exact hj71 _ _ _ h ⟨e68_17, e68_20, e68_23, rfl⟩
            · have h := h.2 hc69
              refine no_dst (want_no rfl rfl rfl hc69) rfl (by decide) ?_
              refine no_dst (want_no rfl rfl rfl hc69) rfl (by decide) ?_
              refine no_dst (want_no rfl rfl rfl hc69) rfl (by decide) ?_
              refine GoOps.q (v := .bool false) rfl rfl (by decide) (q_pickF (btF rfl hc69) rfl) ?_
              exact hj71 _ _ _ h ⟨e68_17, e68_20, e68_23, rfl⟩
        · intro j66 hj66 h
          rcases bor y41 with hc64 | hc64
          · have h := h.1 hc64
            refine GoOps.q (v := .int .i64 y39) (want_yes rfl rfl rfl hc64) rfl (by decide) (q_move rfl) ?_
            refine GoOps.q (v := .int .i64 y32) (want_yes rfl rfl rfl hc64) rfl (by decide) (q_move rfl) ?_
            refine GoOps.q (v := .bool (y39 == y32)) (want_yes rfl rfl rfl hc64) rfl (by decide) (q_eql rfl rfl) ?_
            refine GoOps.q (v := .bool (y39 == y32)) rfl rfl (by decide) (q_pickT (btT rfl hc64) rfl) ?_
            exact hj66 _ _ _ h ⟨rfl, rfl, rfl, rfl, rfl, rfl⟩
          · have h := h.2 hc64
            refine no_dst (want_no rfl rfl rfl hc64) rfl (by decide) ?_
            refine no_dst (want_no rfl rfl rfl hc64) rfl (by decide) ?_
            refine no_dst (want_no rfl rfl rfl hc64) rfl (by decide) ?_
            refine GoOps.q (v := .bool false) rfl rfl (by decide) (q_pickF (btF rfl hc64) rfl) ?_
            exact hj66 _ _ _ h ⟨rfl, rfl, rfl, rfl, rfl, rfl⟩
  · intro j20 hj20 h
    rcases bor (y17 != 0) with hc18 | hc18
    · have h := h.1 hc18
      refine no_dst (want_no rfl rfl rfl hc18) rfl (by decide) ?_
      refine no_dst (want_no rfl rfl rfl hc18) rfl (by decide) ?_
      refine GoOps.q (v := .bool true) rfl rfl (by decide) (q_pickT (btT rfl hc18) rfl) ?_
      exact hj20 _ _ _ h ⟨rfl, rfl, rfl, rfl, rfl⟩
    · have h := h.2 hc18
      refine GoOps.q (v := .pointer y16) (want_yes rfl rfl rfl hc18) rfl (by decide) (q_move rfl) ?_
      refine GoOps.q (v := .bool (Option.isNone y16)) (want_yes rfl rfl rfl hc18) rfl (by decide) (q_eqlPn Try.underlying27 rfl rfl) ?_
      refine GoOps.q (v := .bool (Option.isNone y16)) rfl rfl (by decide) (q_pickF (btF rfl hc18) rfl) ?_
      exact hj20 _ _ _ h ⟨rfl, rfl, rfl, rfl, rfl⟩

/-- (*keelson.geom.Geom).Super -/
def geom_Geom_Super (p0 : Option Addr) (p1 : Int) (H : PH) (Q : Int → PH → Prop) : Prop :=
  mJoin (fun (s2 : Bool) (H4 : PH) =>
  mIf s2
  (Q (-1) H4)
  (Q p1 H4))
  fun j3 =>
  mIf (Option.isNone p0)
  (j3 true H)
  (geom_within p1 0 1 H fun y8 H7 =>
  j3 (!y8) H7)

set_option maxRecDepth 20000 in
set_option maxHeartbeats 1000000 in
theorem geom_Geom_Super_s (p0 : Option Addr) (p1 : Int) (H : PH) (Q : Int → PH → Prop) (h : geom_Geom_Super p0 p1 H Q) :
    CallsH Try.prog 17 #[.pointer p0, .int .i64 p1] H (fun v H' => ∃ (r0 : Int), v = .int .i64 r0 ∧ Q r0 H') := by
  unfold geom_Geom_Super at h
  refine callsH_of_go Try.func17 rfl Try.ntmps17 (Nat.le_of_ble_eq_true rfl) ?_
  refine Go.seq ?_
  refine Go.region rfl ?_
  refine GoOps.q (v := .int .i64 0) rfl rfl (by decide) (q_assign rfl) ?_
  refine GoOps.nil ?_
  refine Go.seq ?_
  refine Go.seq ?_
  refine Go.region rfl ?_
  refine GoOps.q (v := .pointer p0) rfl rfl (by decide) (q_move rfl) ?_
  refine GoOps.q (v := .bool (Option.isNone p0)) rfl rfl (by decide) (q_eqlPn Try.underlying27 rfl rfl) ?_
  refine GoOps.q (v := .bool (Option.isNone p0)) rfl rfl (by decide) (q_move rfl) ?_
  refine join_ops 4 (fun ρ (s2 : Bool) => ρ 1 = .int .i64 p1 ∧ ρ 11 = .bool s2) h ?_ ?_ <;> clear h
  · intro s2 H4 ρ h hE
    obtain ⟨e5_1, e5_11⟩ := hE
    refine GoOps.nil ?_
    rcases bor s2 with hc6 | hc6
    · have h := h.1 hc6
      refine Go.condT (btT e5_11 hc6) ?_
      refine Go.seq ?_
      refine Go.region rfl ?_
      refine GoOps.q (v := .int .i64 (-1)) rfl rfl (by decide) (q_assign rfl) ?_
      refine GoOps.nil ?_
      exact Go.ret ⟨.inl rfl, _, _, DOk.nil, (resOk1 Try.results17 rfl), ⟨_, rfl, h⟩⟩
    · have h := h.2 hc6
      refine Go.condF (btF e5_11 hc6) ?_
      refine Go.skip ?_
      refine Go.seq ?_
      refine Go.region rfl ?_
      refine GoOps.q (v := .int .i64 p1) rfl rfl (by decide) (q_move e5_1) ?_
      refine GoOps.q (v := .int .i64 p1) rfl rfl (by decide) (q_assign rfl) ?_
      refine GoOps.nil ?_
      exact Go.ret ⟨.inl rfl, _, _, DOk.nil, (resOk1 Try.results17 rfl), ⟨_, rfl, h⟩⟩
  · intro j3 hj3 h
    rcases bor (Option.isNone p0) with hc1 | hc1
    · have h := h.1 hc1
      refine no_dst (want_no rfl rfl rfl hc1) rfl (by decide) ?_
      refine no_dst (want_no rfl rfl rfl hc1) rfl (by decide) ?_
      refine no_dst (want_no rfl rfl rfl hc1) rfl (by decide) ?_
      refine GoOps.q (v := .bool true) rfl rfl (by decide) (q_pickT (btT rfl hc1) rfl) ?_
      exact hj3 _ _ _ h ⟨rfl, rfl⟩
    · have h := h.2 hc1
      refine GoOps.q (v := .int .i64 p1) (want_yes rfl rfl rfl hc1) rfl (by decide) (q_move rfl) ?_
      refine call_dst (want_yes rfl rfl rfl hc1) (by decide) body34 (geom_within_s _ _ _ _ _ h) rfl ?_
      rintro _ H7 ⟨y8, rfl, h⟩
      refine GoOps.q (v := .bool (!y8)) (want_yes rfl rfl rfl hc1) rfl (by decide) (q_not rfl) ?_
      refine GoOps.q (v := .bool (!y8)) rfl rfl (by decide) (q_pickF (btF rfl hc1) rfl) ?_
      exact hj3 _ _ _ h ⟨rfl, rfl⟩

/-- keelson.keelsonlaw4.takes -/
def keelsonlaw4_takes (p0 : Sl) (p1 : Int) (p2 : Int) (H : PH) (Q : Bool → PH → Prop) : Prop :=
  mJoin (fun (s2 : Bool) (H4 : PH) =>
  mJoin (fun (s7 : Bool) (H9 : PH) =>
  mJoin (fun (s12 : Bool) (H14 : PH) =>
  mIf s12
  (Q false H14)
  (mLoop (fun (s17 : Int) (H20 : PH) (again18 : Int → PH → Prop) =>
  mIf (decide (s17 < (IntKind.wrap .i64 (p1 + p2))))
  (mIdx p0 1 s17 fun a22 =>
  mLd (.int .i64) H20 a22 fun x24 =>
  mIdx p0 1 s17 fun a26 =>
  mSt H20 a26 ([.int .i64 (IntKind.wrap .i64 (x24 + 1))]) fun H28 =>
  again18 (IntKind.wrap .i64 (s17 + 1)) H28)
  (Q true H20))
  p1 H14))
  fun j13 =>
  mIf s7
  (j13 true H9)
  (j13 (decide ((IntKind.wrap .i64 ((p0.len : Int) - p2)) < p1)) H9))
  fun j8 =>
  mIf s2
  (j8 true H4)
  (j8 (decide ((p0.len : Int) < p2)) H4))
  fun j3 =>
  mIf (decide (p1 < 0))
  (j3 true H)
  (j3 (decide (p2 < 1)) H)

set_option maxRecDepth 20000 in
set_option maxHeartbeats 1000000 in
theorem keelsonlaw4_takes_s (p0 : Sl) (p1 : Int) (p2 : Int) (H : PH) (Q : Bool → PH → Prop) (h : keelsonlaw4_takes p0 p1 p2 H Q) :
    CallsH Try.prog 16 #[Sl.v p0, .int .i64 p1, .int .i64 p2] H (fun v H' => ∃ (r0 : Bool), v = .bool r0 ∧ Q r0 H') := by
  unfold keelsonlaw4_takes at h
  refine callsH_of_go Try.func16 rfl Try.ntmps16 (Nat.le_of_ble_eq_true rfl) ?_
  refine Go.seq ?_
  refine Go.region rfl ?_
  refine GoOps.q (v := .bool false) rfl rfl (by decide) (q_assign rfl) ?_
  refine GoOps.nil ?_
  refine Go.seq ?_
  refine Go.seq ?_
  refine Go.region rfl ?_
  refine GoOps.q (v := .int .i64 p1) rfl rfl (by decide) (q_move rfl) ?_
  refine GoOps.q (v := .bool (decide (p1 < 0))) rfl rfl (by decide) (q_lss rfl rfl) ?_
  refine GoOps.q (v := .bool (decide (p1 < 0))) rfl rfl (by decide) (q_move rfl) ?_
  refine join_ops 3 (fun ρ (s2 : Bool) => ρ 0 = Sl.v p0 ∧ ρ 1 = .int .i64 p1 ∧ ρ 2 = .int .i64 p2 ∧ ρ 13 = .bool s2) h ?_ ?_ <;> clear h
  · intro s2 H4 ρ h hE
    obtain ⟨e5_0, e5_1, e5_2, e5_13⟩ := hE
    refine GoOps.q (v := .bool s2) rfl rfl (by decide) (q_move e5_13) ?_
    refine join_ops 5 (fun ρ (s7 : Bool) => ρ 0 = Sl.v p0 ∧ ρ 1 = .int .i64 p1 ∧ ρ 2 = .int .i64 p2 ∧ ρ 19 = .bool s7) h ?_ ?_ <;> clear h
    · intro s7 H9 ρ h hE
      obtain ⟨e10_0, e10_1, e10_2, e10_19⟩ := hE
      refine GoOps.q (v := .bool s7) rfl rfl (by decide) (q_move e10_19) ?_
      refine join_ops 7 (fun ρ (s12 : Bool) => ρ 0 = Sl.v p0 ∧ ρ 1 = .int .i64 p1 ∧ ρ 2 = .int .i64 p2 ∧ ρ 27 = .bool s12) h ?_ ?_ <;> clear h
      · intro s12 H14 ρ h hE
        obtain ⟨e15_0, e15_1, e15_2, e15_27⟩ := hE
        refine GoOps.nil ?_
        rcases bor s12 with hc16 | hc16
        · have h := h.1 hc16
          refine Go.condT (btT e15_27 hc16) ?_
          refine Go.seq ?_
          refine Go.region rfl ?_
          refine GoOps.q (v := .bool false) rfl rfl (by decide) (q_assign rfl) ?_
          refine GoOps.nil ?_
          exact Go.ret ⟨.inl rfl, _, _, DOk.nil, (resOk1 Try.results16 rfl), ⟨_, rfl, h⟩⟩
        · have h := h.2 hc16
          refine Go.condF (btF e15_27 hc16) ?_
          refine Go.skip ?_
          refine Go.seq ?_
          refine Go.seq ?_
          refine Go.region rfl ?_
          refine GoOps.q (v := .int .i64 p1) rfl rfl (by decide) (q_move e15_1) ?_
          refine GoOps.q (v := .int .i64 p1) rfl rfl (by decide) (q_assign rfl) ?_
          refine GoOps.nil ?_
          refine Go.block ?_
          refine loop_go (fun ρ (s17 : Int) => ρ 0 = Sl.v p0 ∧ ρ 1 = .int .i64 p1 ∧ ρ 2 = .int .i64 p2 ∧ ρ 7 = .int .i64 s17) h ⟨e15_0, e15_1, e15_2, rfl⟩ ?_
          clear h
          intro ρ s17 H20 again18 hE h hagain18
          obtain ⟨e19_0, e19_1, e19_2, e19_7⟩ := hE
          refine Go.seq ?_
          refine Go.seq ?_
          refine Go.region rfl ?_
          refine GoOps.q (v := .int .i64 s17) rfl rfl (by decide) (q_move e19_7) ?_
          refine GoOps.q (v := .int .i64 p1) rfl rfl (by decide) (q_move e19_1) ?_
          refine GoOps.q (v := .int .i64 p2) rfl rfl (by decide) (q_move e19_2) ?_
          refine GoOps.q (v := .int .i64 (IntKind.wrap .i64 (p1 + p2))) rfl rfl (by decide) (q_add rfl rfl) ?_
          refine GoOps.q (v := .bool (decide (s17 < (IntKind.wrap .i64 (p1 + p2))))) rfl rfl (by decide) (q_lss rfl rfl) ?_
          refine GoOps.nil ?_
          rcases bor (decide (s17 < (IntKind.wrap .i64 (p1 + p2)))) with hc21 | hc21
          · have h := h.1 hc21
            refine Go.condT (btT rfl hc21) ?_
            refine Go.skip ?_
            refine Go.seq ?_
            refine Go.block ?_
            refine Go.region rfl ?_
            refine GoOps.q (v := Sl.v p0) rfl rfl (by decide) (q_move e19_0) ?_
            refine GoOps.q (v := .int .i64 s17) rfl rfl (by decide) (q_move e19_7) ?_
            obtain ⟨a22, ha23, h⟩ := h
            refine GoOps.q (v := .pointer (some a22)) rfl rfl (by decide) (q_idx slice23 ha23 rfl rfl) ?_
            obtain ⟨x24, hx25, h⟩ := h
            refine GoOps.q (v := .int .i64 x24) rfl rfl (by decide) (q_load scalar3 rfl hx25) ?_
            refine GoOps.q (v := .int .i64 (IntKind.wrap .i64 (x24 + 1))) rfl rfl (by decide) (q_add rfl rfl) ?_
            obtain ⟨a26, ha27, h⟩ := h
            refine GoOps.q (v := .pointer (some a26)) rfl rfl (by decide) (q_idx slice23 ha27 rfl rfl) ?_
            obtain ⟨q29b, q29o, q29c, q29e, hq29a, hq29b, hq29l, hq29v, h⟩ := h
            refine op_none rfl rfl (do_store (vs := [.int .i64 (IntKind.wrap .i64 (x24 + 1))]) size3 (pta rfl hq29a) rfl rfl rfl hq29v hq29b hq29l ?_) 
            refine GoOps.nil ?_
            refine Go.inBlock ?_
            refine Go.region rfl ?_
            refine GoOps.q (v := .int .i64 s17) rfl rfl (by decide) (q_move e19_7) ?_
            refine GoOps.q (v := .int .i64 (IntKind.wrap .i64 (s17 + 1))) rfl rfl (by decide) (q_add rfl rfl) ?_
            refine GoOps.q (v := .int .i64 (IntKind.wrap .i64 (s17 + 1))) rfl rfl (by decide) (q_assign rfl) ?_
            refine GoOps.nil ?_
            exact hagain18 _ _ _ h ⟨e19_0, e19_1, e19_2, rfl⟩
          · have h := h.2 hc21
            refine Go.condF (btF rfl hc21) ?_
            refine Go.exit rfl ?_
            refine Go.seq ?_
            refine Go.region rfl ?_
            refine GoOps.q (v := .bool true) rfl rfl (by decide) (q_assign rfl) ?_
            refine GoOps.nil ?_
            exact Go.ret ⟨.inl rfl, _, _, DOk.nil, (resOk1 Try.results16 rfl), ⟨_, rfl, h⟩⟩
      · intro j13 hj13 h
        rcases bor s7 with hc11 | hc11
        · have h := h.1 hc11
          refine no_dst (want_no rfl rfl rfl hc11) rfl (by decide) ?_
          refine no_dst (want_no rfl rfl rfl hc11) rfl (by decide) ?_
          refine no_dst (want_no rfl rfl rfl hc11) rfl (by decide) ?_
          refine no_dst (want_no rfl rfl rfl hc11) rfl (by decide) ?_
          refine no_dst (want_no rfl rfl rfl hc11) rfl (by decide) ?_
          refine no_dst (want_no rfl rfl rfl hc11) rfl (by decide) ?_
          refine GoOps.q (v := .bool true) rfl rfl (by decide) (q_pickT (btT rfl hc11) rfl) ?_
          exact hj13 _ _ _ h ⟨e10_0, e10_1, e10_2, rfl⟩
        · have h := h.2 hc11
          refine GoOps.q (v := .int .i64 p1) (want_yes rfl rfl rfl hc11) rfl (by decide) (q_move e10_1) ?_
          refine GoOps.q (v := Sl.v p0) (want_yes rfl rfl rfl hc11) rfl (by decide) (q_move e10_0) ?_
          refine GoOps.q (v := .int .i64 (p0.len : Int)) (want_yes rfl rfl rfl hc11) rfl (by decide) (q_len Try.underlying23 rfl (ls1 rfl)) ?_
          refine GoOps.q (v := .int .i64 p2) (want_yes rfl rfl rfl hc11) rfl (by decide) (q_move e10_2) ?_
          refine GoOps.q (v := .int .i64 (IntKind.wrap .i64 ((p0.len : Int) - p2))) (want_yes rfl rfl rfl hc11) rfl (by decide) (q_sub rfl rfl) ?_
          refine GoOps.q (v := .bool (decide ((IntKind.wrap .i64 ((p0.len : Int) - p2)) < p1))) (want_yes rfl rfl rfl hc11) rfl (by decide) (q_gtr rfl rfl) ?_
          refine GoOps.q (v := .bool (decide ((IntKind.wrap .i64 ((p0.len : Int) - p2)) < p1))) rfl rfl (by decide) (q_pickF (btF rfl hc11) rfl) ?_
          exact hj13 _ _ _ h ⟨e10_0, e10_1, e10_2, rfl⟩
    · intro j8 hj8 h
      rcases bor s2 with hc6 | hc6
      · have h := h.1 hc6
        refine no_dst (want_no rfl rfl rfl hc6) rfl (by decide) ?_
        refine no_dst (want_no rfl rfl rfl hc6) rfl (by decide) ?_
        refine no_dst (want_no rfl rfl rfl hc6) rfl (by decide) ?_
        refine no_dst (want_no rfl rfl rfl hc6) rfl (by decide) ?_
        refine GoOps.q (v := .bool true) rfl rfl (by decide) (q_pickT (btT rfl hc6) rfl) ?_
        exact hj8 _ _ _ h ⟨e5_0, e5_1, e5_2, rfl⟩
      · have h := h.2 hc6
        refine GoOps.q (v := .int .i64 p2) (want_yes rfl rfl rfl hc6) rfl (by decide) (q_move e5_2) ?_
        refine GoOps.q (v := Sl.v p0) (want_yes rfl rfl rfl hc6) rfl (by decide) (q_move e5_0) ?_
        refine GoOps.q (v := .int .i64 (p0.len : Int)) (want_yes rfl rfl rfl hc6) rfl (by decide) (q_len Try.underlying23 rfl (ls1 rfl)) ?_
        refine GoOps.q (v := .bool (decide ((p0.len : Int) < p2))) (want_yes rfl rfl rfl hc6) rfl (by decide) (q_gtr rfl rfl) ?_
        refine GoOps.q (v := .bool (decide ((p0.len : Int) < p2))) rfl rfl (by decide) (q_pickF (btF rfl hc6) rfl) ?_
        exact hj8 _ _ _ h ⟨e5_0, e5_1, e5_2, rfl⟩
  · intro j3 hj3 h
    rcases bor (decide (p1 < 0)) with hc1 | hc1
    · have h := h.1 hc1
      refine no_dst (want_no rfl rfl rfl hc1) rfl (by decide) ?_
      refine no_dst (want_no rfl rfl rfl hc1) rfl (by decide) ?_
      refine GoOps.q (v := .bool true) rfl rfl (by decide) (q_pickT (btT rfl hc1) rfl) ?_
      exact hj3 _ _ _ h ⟨rfl, rfl, rfl, rfl⟩
    · have h := h.2 hc1
      refine GoOps.q (v := .int .i64 p2) (want_yes rfl rfl rfl hc1) rfl (by decide) (q_move rfl) ?_
      refine GoOps.q (v := .bool (decide (p2 < 1))) (want_yes rfl rfl rfl hc1) rfl (by decide) (q_lss rfl rfl) ?_
      refine GoOps.q (v := .bool (decide (p2 < 1))) rfl rfl (by decide) (q_pickF (btF rfl hc1) rfl) ?_
      exact hj3 _ _ _ h ⟨rfl, rfl, rfl, rfl⟩

/-- (*keelson.geom.Geom).Region -/
def geom_Geom_Region (p0 : Option Addr) (p1 : Int) (H : PH) (Q : Int → PH → Prop) : Prop :=
  mJoin (fun (s2 : Bool) (H4 : PH) =>
  mIf s2
  (Q (-1) H4)
  (geom_Geom_RegionLen p0 H4 fun y8 H7 =>
  Q (IntKind.wrap .i64 (2 + (IntKind.wrap .i64 (p1 * y8)))) H7))
  fun j3 =>
  mIf (Option.isNone p0)
  (j3 true H)
  (geom_within p1 0 1 H fun y10 H9 =>
  j3 (!y10) H9)

set_option maxRecDepth 20000 in
set_option maxHeartbeats 1000000 in
theorem geom_Geom_Region_s (p0 : Option Addr) (p1 : Int) (H : PH) (Q : Int → PH → Prop) (h : geom_Geom_Region p0 p1 H Q) :
    CallsH Try.prog 18 #[.pointer p0, .int .i64 p1] H (fun v H' => ∃ (r0 : Int), v = .int .i64 r0 ∧ Q r0 H') := by
  unfold geom_Geom_Region at h
  refine callsH_of_go Try.func18 rfl Try.ntmps18 (Nat.le_of_ble_eq_true rfl) ?_
  refine Go.seq ?_
  refine Go.region rfl ?_
  refine GoOps.q (v := .int .i64 0) rfl rfl (by decide) (q_assign rfl) ?_
  refine GoOps.nil ?_
  refine Go.seq ?_
  refine Go.seq ?_
  refine Go.region rfl ?_
  refine GoOps.q (v := .pointer p0) rfl rfl (by decide) (q_move rfl) ?_
  refine GoOps.q (v := .bool (Option.isNone p0)) rfl rfl (by decide) (q_eqlPn Try.underlying27 rfl rfl) ?_
  refine GoOps.q (v := .bool (Option.isNone p0)) rfl rfl (by decide) (q_move rfl) ?_
  refine join_ops 4 (fun ρ (s2 : Bool) => ρ 0 = .pointer p0 ∧ ρ 1 = .int .i64 p1 ∧ ρ 11 = .bool s2) h ?_ ?_ <;> clear h
  · intro s2 H4 ρ h hE
    obtain ⟨e5_0, e5_1, e5_11⟩ := hE
    refine GoOps.nil ?_
    rcases bor s2 with hc6 | hc6
    · have h := h.1 hc6
      refine Go.condT (btT e5_11 hc6) ?_
      refine Go.seq ?_
      refine Go.region rfl ?_
      refine GoOps.q (v := .int .i64 (-1)) rfl rfl (by decide) (q_assign rfl) ?_
      refine GoOps.nil ?_
      exact Go.ret ⟨.inl rfl, _, _, DOk.nil, (resOk1 Try.results18 rfl), ⟨_, rfl, h⟩⟩
    · have h := h.2 hc6
      refine Go.condF (btF e5_11 hc6) ?_
      refine Go.skip ?_
      refine Go.seq ?_
      refine Go.region rfl ?_
      refine GoOps.q (v := .int .i64 p1) rfl rfl (by decide) (q_move e5_1) ?_
      refine GoOps.q (v := .pointer p0) rfl rfl (by decide) (q_move e5_0) ?_
      refine call_dst rfl (by decide) body19 (geom_Geom_RegionLen_s _ _ _ h) rfl ?_
      rintro _ H7 ⟨y8, rfl, h⟩
      refine GoOps.q (v := .int .i64 (IntKind.wrap .i64 (p1 * y8))) rfl rfl (by decide) (q_mul rfl rfl) ?_
      refine GoOps.q (v := .int .i64 (IntKind.wrap .i64 (2 + (IntKind.wrap .i64 (p1 * y8))))) rfl rfl (by decide) (q_add rfl rfl) ?_
      refine GoOps.q (v := .int .i64 (IntKind.wrap .i64 (2 + (IntKind.wrap .i64 (p1 * y8))))) rfl rfl (by decide) (q_assign rfl) ?_
      refine GoOps.nil ?_
      exact Go.ret ⟨.inl rfl, _, _, DOk.nil, (resOk1 Try.results18 rfl), ⟨_, rfl, h⟩⟩
  · intro j3 hj3 h
    rcases bor (Option.isNone p0) with hc1 | hc1
    · have h := h.1 hc1
      refine no_dst (want_no rfl rfl rfl hc1) rfl (by decide) ?_
      refine no_dst (want_no rfl rfl rfl hc1) rfl (by decide) ?_
      refine no_dst (want_no rfl rfl rfl hc1) rfl (by decide) ?_
      refine GoOps.q (v := .bool true) rfl rfl (by decide) (q_pickT (btT rfl hc1) rfl) ?_
      exact hj3 _ _ _ h ⟨rfl, rfl, rfl⟩
    · have h := h.2 hc1
      refine GoOps.q (v := .int .i64 p1) (want_yes rfl rfl rfl hc1) rfl (by decide) (q_move rfl) ?_
      refine call_dst (want_yes rfl rfl rfl hc1) (by decide) body34 (geom_within_s _ _ _ _ _ h) rfl ?_
      rintro _ H9 ⟨y10, rfl, h⟩
      refine GoOps.q (v := .bool (!y10)) (want_yes rfl rfl rfl hc1) rfl (by decide) (q_not rfl) ?_
      refine GoOps.q (v := .bool (!y10)) rfl rfl (by decide) (q_pickF (btF rfl hc1) rfl) ?_
      exact hj3 _ _ _ h ⟨rfl, rfl, rfl⟩

/-- (*keelson.geom.Geom).Page -/
def geom_Geom_Page (p0 : Option Addr) (p1 : Bool) (p2 : Int) (p3 : Int) (H : PH) (Q : Int → PH → Prop) : Prop :=
  mJoin (fun (s2 : Bool) (H4 : PH) =>
  mJoin (fun (s7 : Bool) (H9 : PH) =>
  mIf s7
  (Q (-1) H9)
  (mJoin (fun (s12 : Int) (H14 : PH) =>
  geom_Geom_RegionLen p0 H14 fun y17 H16 =>
  Q (IntKind.wrap .i64 ((IntKind.wrap .i64 (2 + (IntKind.wrap .i64 (2 * (IntKind.wrap .i64 (y17 + s12)))))) + p3)) H16)
  fun j13 =>
  mIf p1
  (geom_Geom_Pages p0 H9 fun y20 H19 =>
  j13 (IntKind.wrap .i64 (p2 + y20)) H19)
  (j13 p2 H9)))
  fun j8 =>
  mIf s2
  (j8 true H4)
  (geom_Geom_Pages p0 H4 fun y22 H21 =>
  geom_within p2 0 (IntKind.wrap .i64 (y22 - 1)) H21 fun y24 H23 =>
  j8 (!y24) H23))
  fun j3 =>
  mIf (Option.isNone p0)
  (j3 true H)
  (geom_within p3 0 1 H fun y26 H25 =>
  j3 (!y26) H25)

set_option maxRecDepth 20000 in
set_option maxHeartbeats 1000000 in
theorem geom_Geom_Page_s (p0 : Option Addr) (p1 : Bool) (p2 : Int) (p3 : Int) (H : PH) (Q : Int → PH → Prop) (h : geom_Geom_Page p0 p1 p2 p3 H Q) :
    CallsH Try.prog 21 #[.pointer p0, .bool p1, .int .i64 p2, .int .i64 p3] H (fun v H' => ∃ (r0 : Int), v = .int .i64 r0 ∧ Q r0 H') := by
  unfold geom_Geom_Page at h
  refine callsH_of_go Try.func21 rfl Try.ntmps21 (Nat.le_of_ble_eq_true rfl) ?_
  refine Go.seq ?_
  refine Go.region rfl ?_
  refine GoOps.q (v := .int .i64 0) rfl rfl (by decide) (q_assign rfl) ?_
  refine GoOps.nil ?_
  refine Go.seq ?_
  refine Go.seq ?_
  refine Go.region rfl ?_
  refine GoOps.q (v := .pointer p0) rfl rfl (by decide) (q_move rfl) ?_
  refine GoOps.q (v := .bool (Option.isNone p0)) rfl rfl (by decide) (q_eqlPn Try.underlying27 rfl rfl) ?_
  refine GoOps.q (v := .bool (Option.isNone p0)) rfl rfl (by decide) (q_move rfl) ?_
  refine join_ops 4 (fun ρ (s2 : Bool) => ρ 0 = .pointer p0 ∧ ρ 1 = .bool p1 ∧ ρ 2 = .int .i64 p2 ∧ ρ 3 = .int .i64 p3 ∧ ρ 15 = .bool s2) h ?_ ?_ <;> clear h
  · intro s2 H4 ρ h hE
    obtain ⟨e5_0, e5_1, e5_2, e5_3, e5_15⟩ := hE
    refine GoOps.q (v := .bool s2) rfl rfl (by decide) (q_move e5_15) ?_
    refine join_ops 7 (fun ρ (s7 : Bool) => ρ 0 = .pointer p0 ∧ ρ 1 = .bool p1 ∧ ρ 2 = .int .i64 p2 ∧ ρ 3 = .int .i64 p3 ∧ ρ 23 = .bool s7) h ?_ ?_ <;> clear h
    · intro s7 H9 ρ h hE
      obtain ⟨e10_0, e10_1, e10_2, e10_3, e10_23⟩ := hE
      refine GoOps.nil ?_
      rcases bor s7 with hc11 | hc11
      · have h := h.1 hc11
        refine Go.condT (btT e10_23 hc11) ?_
        refine Go.seq ?_
        refine Go.region rfl ?_
        refine GoOps.q (v := .int .i64 (-1)) rfl rfl (by decide) (q_assign rfl) ?_
        refine GoOps.nil ?_
        exact Go.ret ⟨.inl rfl, _, _, DOk.nil, (resOk1 Try.results21 rfl), ⟨_, rfl, h⟩⟩
      · have h := h.2 hc11
        refine Go.condF (btF e10_23 hc11) ?_
        refine Go.skip ?_
        refine Go.seq ?_
        refine Go.seq ?_
        refine Go.region rfl ?_
        refine GoOps.q (v := .bool p1) rfl rfl (by decide) (q_move e10_1) ?_
        refine GoOps.nil ?_
        refine join_go 1 (fun ρ (s12 : Int) => ρ 0 = .pointer p0 ∧ ρ 2 = .int .i64 s12 ∧ ρ 3 = .int .i64 p3) h ?_ ?_ <;> clear h
        · intro s12 H14 ρ h hE
          obtain ⟨e15_0, e15_2, e15_3⟩ := hE
          refine Go.seq ?_
          refine Go.region rfl ?_
          refine GoOps.q (v := .pointer p0) rfl rfl (by decide) (q_move e15_0) ?_
          refine call_dst rfl (by decide) body19 (geom_Geom_RegionLen_s _ _ _ h) rfl ?_
          rintro _ H16 ⟨y17, rfl, h⟩
          refine GoOps.q (v := .int .i64 s12) rfl rfl (by decide) (q_move e15_2) ?_
          refine GoOps.q (v := .int .i64 (IntKind.wrap .i64 (y17 + s12))) rfl rfl (by decide) (q_add rfl rfl) ?_
          refine GoOps.q (v := .int .i64 (IntKind.wrap .i64 (2 * (IntKind.wrap .i64 (y17 + s12))))) rfl rfl (by decide) (q_mul rfl rfl) ?_
          refine GoOps.q (v := .int .i64 (IntKind.wrap .i64 (2 + (IntKind.wrap .i64 (2 * (IntKind.wrap .i64 (y17 + s12))))))) rfl rfl (by decide) (q_add rfl rfl) ?_
          refine GoOps.q (v := .int .i64 p3) rfl rfl (by decide) (q_move e15_3) ?_
          refine GoOps.q (v := .int .i64 (IntKind.wrap .i64 ((IntKind.wrap .i64 (2 + (IntKind.wrap .i64 (2 * (IntKind.wrap .i64 (y17 + s12)))))) + p3))) rfl rfl (by decide) (q_add rfl rfl) ?_
          refine GoOps.q (v := .int .i64 (IntKind.wrap .i64 ((IntKind.wrap .i64 (2 + (IntKind.wrap .i64 (2 * (IntKind.wrap .i64 (y17 + s12)))))) + p3))) rfl rfl (by decide) (q_assign rfl) ?_
          refine GoOps.nil ?_
          exact Go.ret ⟨.inl rfl, _, _, DOk.nil, (resOk1 Try.results21 rfl), ⟨_, rfl, h⟩⟩
        · intro j13 hj13 h
          rcases bor p1 with hc18 | hc18
          · have h := h.1 hc18
            refine Go.condT (btT rfl hc18) ?_
            refine Go.region rfl ?_
            refine GoOps.q (v := .int .i64 p2) rfl rfl (by decide) (q_move e10_2) ?_
            refine GoOps.q (v := .pointer p0) rfl rfl (by decide) (q_move e10_0) ?_
            refine call_dst rfl (by decide) body20 (geom_Geom_Pages_s _ _ _ h) rfl ?_
            rintro _ H19 ⟨y20, rfl, h⟩
            refine GoOps.q (v := .int .i64 (IntKind.wrap .i64 (p2 + y20))) rfl rfl (by decide) (q_add rfl rfl) ?_
            refine GoOps.q (v := .int .i64 (IntKind.wrap .i64 (p2 + y20))) rfl rfl (by decide) (q_assign rfl) ?_
            refine GoOps.nil ?_
            exact hj13 _ _ _ h ⟨e10_0, rfl, e10_3⟩
          · have h := h.2 hc18
            refine Go.condF (btF rfl hc18) ?_
            refine Go.skip ?_
            exact hj13 _ _ _ h ⟨e10_0, e10_2, e10_3⟩
    · intro j8 hj8 h
      rcases bor s2 with hc6 | hc6
      · have h := h.1 hc6
        refine no_dst (want_no rfl rfl rfl hc6) rfl (by decide) ?_
        refine no_dst (want_no rfl rfl rfl hc6) rfl (by decide) ?_
        refine no_dst (want_no rfl rfl rfl hc6) rfl (by decide) ?_
        refine no_dst (want_no rfl rfl rfl hc6) rfl (by decide) ?_
        refine no_dst (want_no rfl rfl rfl hc6) rfl (by decide) ?_
        refine no_dst (want_no rfl rfl rfl hc6) rfl (by decide) ?_
        refine GoOps.q (v := .bool true) rfl rfl (by decide) (q_pickT (btT rfl hc6) rfl) ?_
        exact hj8 _ _ _ h ⟨e5_0, e5_1, e5_2, e5_3, rfl⟩
      · have h := h.2 hc6
        refine GoOps.q (v := .int .i64 p2) (want_yes rfl rfl rfl hc6) rfl (by decide) (q_move e5_2) ?_
        refine GoOps.q (v := .pointer p0) (want_yes rfl rfl rfl hc6) rfl (by decide) (q_move e5_0) ?_
        refine call_dst (want_yes rfl rfl rfl hc6) (by decide) body20 (geom_Geom_Pages_s _ _ _ h) rfl ?_
        rintro _ H21 ⟨y22, rfl, h⟩
        refine GoOps.q (v := .int .i64 (IntKind.wrap .i64 (y22 - 1))) (want_yes rfl rfl rfl hc6) rfl (by decide) (q_sub rfl rfl) ?_
        refine call_dst (want_yes rfl rfl rfl hc6) (by decide) body34 (geom_within_s _ _ _ _ _ h) rfl ?_
        rintro _ H23 ⟨y24, rfl, h⟩
        refine GoOps.q (v := .bool (!y24)) (want_yes rfl rfl rfl hc6) rfl (by decide) (q_not rfl) ?_
        refine GoOps.q (v := .bool (!y24)) rfl rfl (by decide) (q_pickF (btF rfl hc6) rfl) ?_
        exact hj8 _ _ _ h ⟨e5_0, e5_1, e5_2, e5_3, rfl⟩
  · intro j3 hj3 h
    rcases bor (Option.isNone p0) with hc1 | hc1
    · have h := h.1 hc1
      refine no_dst (want_no rfl rfl rfl hc1) rfl (by decide) ?_
      refine no_dst (want_no rfl rfl rfl hc1) rfl (by decide) ?_
      refine no_dst (want_no rfl rfl rfl hc1) rfl (by decide) ?_
      refine GoOps.q (v := .bool true) rfl rfl (by decide) (q_pickT (btT rfl hc1) rfl) ?_
      exact hj3 _ _ _ h ⟨rfl, rfl, rfl, rfl, rfl⟩
    · have h := h.2 hc1
      refine GoOps.q (v := .int .i64 p3) (want_yes rfl rfl rfl hc1) rfl (by decide) (q_move rfl) ?_
      refine call_dst (want_yes rfl rfl rfl hc1) (by decide) body34 (geom_within_s _ _ _ _ _ h) rfl ?_
      rintro _ H25 ⟨y26, rfl, h⟩
      refine GoOps.q (v := .bool (!y26)) (want_yes rfl rfl rfl hc1) rfl (by decide) (q_not rfl) ?_
      refine GoOps.q (v := .bool (!y26)) rfl rfl (by decide) (q_pickF (btF rfl hc1) rfl) ?_
      exact hj3 _ _ _ h ⟨rfl, rfl, rfl, rfl, rfl⟩

/-- keelson.keelsonlaw4.GeomCovers -/
def keelsonlaw4_GeomCovers (p0 : (Int × Int × Int)) (H : PH) (Q : Bool → PH → Prop) : Prop :=
  mNew H (row [.int .i64 p0.1, .int .i64 p0.2.1, .int .i64 p0.2.2] 22) fun a1 H2 =>
  mLdR (fun (x : (Int × Int × Int)) => [.int .i64 x.1, .int .i64 x.2.1, .int .i64 x.2.2]) H2 a1 3 fun x4 =>
  keelsonalike_Config (x4.1, x4.2.1, x4.2.2) false H2 fun y7 H6 =>
  mNew H6 (row [.int .i64 0, .int .i64 0, .int .i64 0] 25) fun a8 H9 =>
  mSt H9 a8 ([.int .i64 y7.1, .int .i64 y7.2.1, .int .i64 y7.2.2]) fun H11 =>
  mLdR (fun (x : (Int × Int × Int)) => [.int .i64 x.1, .int .i64 x.2.1, .int .i64 x.2.2]) H11 a8 3 fun x13 =>
  geom_New (x13.1, x13.2.1, x13.2.2) H11 fun y16 y17 H15 =>
  mJoin (fun (s19 : Bool) (H21 : PH) =>
  mJoin (fun (s24 : Bool) (H26 : PH) =>
  mJoin (fun (s29 : Bool) (H31 : PH) =>
  mIf s29
  (Q false H31)
  (geom_Geom_Sectors y16 H31 fun y35 H34 =>
  mMk H34 3 8 [.int .i64 0] y35 y35 fun r36 H37 =>
  mLoop (fun (s40 : Bool × Int) (H43 : PH) (again41 : (Bool × Int) → PH → Prop) =>
  mIf (decide (s40.2 < 2))
  (mJoin (fun (s46 : Bool) (H48 : PH) =>
  mJoin (fun (s51 : Bool) (H53 : PH) =>
  mLoop (fun (s55 : Bool × Int) (H58 : PH) (again56 : (Bool × Int) → PH → Prop) =>
  geom_Geom_Pages y16 H58 fun y60 H59 =>
  mIf (decide (s55.2 < y60))
  (mJoin (fun (s63 : Bool) (H65 : PH) =>
  mJoin (fun (s68 : Bool) (H70 : PH) =>
  again56 (s68, IntKind.wrap .i64 (s55.2 + 1)) H70)
  fun j69 =>
  mIf s63
  (j69 true H65)
  (geom_Geom_Page y16 true s55.2 s40.2 H65 fun y73 H72 =>
  keelsonlaw4_takes r36 y73 1 H72 fun y75 H74 =>
  j69 (!y75) H74))
  fun j64 =>
  mIf s55.1
  (j64 true H59)
  (geom_Geom_Page y16 false s55.2 s40.2 H59 fun y77 H76 =>
  keelsonlaw4_takes r36 y77 1 H76 fun y79 H78 =>
  j64 (!y79) H78))
  (again41 (s55.1, IntKind.wrap .i64 (s40.2 + 1)) H59))
  (s51, 0) H53)
  fun j52 =>
  mIf s46
  (j52 true H48)
  (geom_Geom_Region y16 s40.2 H48 fun y81 H80 =>
  geom_Geom_RegionLen y16 H80 fun y83 H82 =>
  keelsonlaw4_takes r36 y81 y83 H82 fun y85 H84 =>
  j52 (!y85) H84))
  fun j47 =>
  mIf s40.1
  (j47 true H43)
  (geom_Geom_Super y16 s40.2 H43 fun y87 H86 =>
  keelsonlaw4_takes r36 y87 1 H86 fun y89 H88 =>
  j47 (!y89) H88))
  (mLoop (fun (s90 : Bool × Int) (H93 : PH) (again91 : (Bool × Int) → PH → Prop) =>
  mLd (.int .i64) H93 (a8.add 1) fun x94 =>
  mIf (decide (s90.2 < x94))
  (mJoin (fun (s98 : Bool) (H100 : PH) =>
  again91 (s98, IntKind.wrap .i64 (s90.2 + 1)) H100)
  fun j99 =>
  mIf s90.1
  (j99 true H93)
  (mLd (.int .i64) H93 (a8.add 2) fun x102 =>
  geom_Geom_Seg y16 s90.2 H93 fun y105 H104 =>
  mSame H104 (a8.add 2) (.int .i64 x102) <|
  keelsonlaw4_takes r36 y105 x102 H104 fun y108 H107 =>
  j99 (!y108) H107))
  (mLoop (fun (s109 : Bool × Int) (H112 : PH) (again110 : (Bool × Int) → PH → Prop) =>
  mIf (decide (s109.2 < (r36.len : Int)))
  (mJoin (fun (s115 : Bool) (H117 : PH) =>
  again110 (s115, IntKind.wrap .i64 (s109.2 + 1)) H117)
  fun j116 =>
  mIf s109.1
  (j116 true H112)
  (mIdx r36 1 s109.2 fun a119 =>
  mLd (.int .i64) H112 a119 fun x121 =>
  j116 (x121 != 1) H112))
  (mJoin (fun (s124 : Bool) (H126 : PH) =>
  Q s124 H126)
  fun j125 =>
  mIf (!s109.1)
  (keelsonlaw4_awake H112 fun y129 H128 =>
  j125 y129 H128)
  (j125 false H112)))
  (s90.1, 0) H93))
  (s40.1, 0) H43))
  (false, 0) H37))
  fun j30 =>
  mIf s24
  (j30 true H26)
  (geom_Geom_Sectors y16 H26 fun y131 H130 =>
  j30 (decide (4096 < y131)) H130))
  fun j25 =>
  mIf s19
  (j25 true H21)
  (geom_Geom_Sectors y16 H21 fun y133 H132 =>
  j25 (decide (y133 < 1)) H132))
  fun j20 =>
  mIf (y17 != 0)
  (j20 true H15)
  (j20 (Option.isNone y16) H15)

set_option maxRecDepth 20000 in
set_option maxHeartbeats 1000000 in
theorem keelsonlaw4_GeomCovers_s (p0 : (Int × Int × Int)) (H : PH) (Q : Bool → PH → Prop) (h : keelsonlaw4_GeomCovers p0 H Q) :
    CallsH Try.prog 5 #[.agg ([.int .i64 p0.1, .int .i64 p0.2.1, .int .i64 p0.2.2] : List Value).toArray] H (fun v H' => ∃ (r0 : Bool), v = .bool r0 ∧ Q r0 H') := by
  unfold keelsonlaw4_GeomCovers at h
  refine callsH_of_go Try.func5 rfl Try.ntmps5 (Nat.le_of_ble_eq_true rfl) ?_
  refine Go.seq ?_
  refine Go.region rfl ?_
  refine op_dst rfl rfl (by decide) (do_newBox (cs := [.int .i64 p0.1, .int .i64 p0.2.1, .int .i64 p0.2.2]) rfl rfl fun a1 H2 hb3 => ?_) 
  have h := h a1 H2 hb3
  refine GoOps.q (v := .bool false) rfl rfl (by decide) (q_assign rfl) ?_
  refine GoOps.nil ?_
  refine Go.seq ?_
  refine Go.region rfl ?_
  obtain ⟨x4, hx5, h⟩ := h
  refine GoOps.q (v := .agg ([.int .i64 x4.1, .int .i64 x4.2.1, .int .i64 x4.2.2] : List Value).toArray) rfl rfl (by decide) (q_loadA aggr22 rfl hx5) ?_
  refine call_dst rfl (by decide) body7 (keelsonalike_Config_s _ _ _ _ h) rfl ?_
  rintro _ H6 ⟨y7, rfl, h⟩
  refine op_dst rfl rfl (by decide) (do_new zero25 rfl fun a8 H9 hb10 => ?_) 
  have h := h a8 H9 hb10
  obtain ⟨q12b, q12o, q12c, q12e, hq12a, hq12b, hq12l, hq12v, h⟩ := h
  refine op_none rfl rfl (do_store (vs := [.int .i64 y7.1, .int .i64 y7.2.1, .int .i64 y7.2.2]) size25 (pta rfl hq12a) rfl rfl rfl hq12v hq12b hq12l ?_) 
  refine GoOps.nil ?_
  refine Go.seq ?_
  refine Go.region rfl ?_
  obtain ⟨x13, hx14, h⟩ := h
  refine GoOps.q (v := .agg ([.int .i64 x13.1, .int .i64 x13.2.1, .int .i64 x13.2.2] : List Value).toArray) rfl rfl (by decide) (q_loadA aggr25 rfl hx14) ?_
  refine call_dst rfl (by decide) body8 (geom_New_s _ _ _ h) rfl ?_
  rintro _ H15 ⟨y16, y17, rfl, h⟩
  refine GoOps.q (v := .tuple #[.pointer y16, .int .i64 y17]) rfl rfl (by decide) (q_move rfl) ?_
  refine GoOps.q (v := .pointer y16) rfl rfl (by decide) (q_extract rfl rfl) ?_
  refine GoOps.q (v := .int .i64 y17) rfl rfl (by decide) (q_extract rfl rfl) ?_
  refine GoOps.q (v := .pointer y16) rfl rfl (by decide) (q_assign rfl) ?_
  refine GoOps.q (v := .int .i64 y17) rfl rfl (by decide) (q_assign rfl) ?_
  refine GoOps.nil ?_
  refine Go.seq ?_
  refine Go.seq ?_
  refine Go.region rfl ?_
  refine GoOps.q (v := .int .i64 y17) rfl rfl (by decide) (q_move rfl) ?_
  refine GoOps.q (v := .bool (y17 != 0)) rfl rfl (by decide) (q_neq rfl rfl) ?_
  refine GoOps.q (v := .bool (y17 != 0)) rfl rfl (by decide) (q_move rfl) ?_
  refine join_ops 3 (fun ρ (s19 : Bool) => ρ 3 = .pointer (some a8) ∧ ρ 4 = .pointer y16 ∧ ρ 24 = .bool s19) h ?_ ?_ <;> clear h
  · intro s19 H21 ρ h hE
    obtain ⟨e22_3, e22_4, e22_24⟩ := hE
    refine GoOps.q (v := .bool s19) rfl rfl (by decide) (q_move e22_24) ?_
    refine join_ops 4 (fun ρ (s24 : Bool) => ρ 3 = .pointer (some a8) ∧ ρ 4 = .pointer y16 ∧ ρ 29 = .bool s24) h ?_ ?_ <;> clear h
    · intro s24 H26 ρ h hE
      obtain ⟨e27_3, e27_4, e27_29⟩ := hE
      refine GoOps.q (v := .bool s24) rfl rfl (by decide) (q_move e27_29) ?_
      refine join_ops 4 (fun ρ (s29 : Bool) => ρ 3 = .pointer (some a8) ∧ ρ 4 = .pointer y16 ∧ ρ 34 = .bool s29) h ?_ ?_ <;> clear h
      · intro s29 H31 ρ h hE
        obtain ⟨e32_3, e32_4, e32_34⟩ := hE
        refine GoOps.nil ?_
        rcases bor s29 with hc33 | hc33
        · have h := h.1 hc33
          refine Go.condT (btT e32_34 hc33) ?_
          refine Go.seq ?_
          refine Go.region rfl ?_
          refine GoOps.q (v := .bool false) rfl rfl (by decide) (q_assign rfl) ?_
          refine GoOps.nil ?_
          exact Go.ret ⟨.inl rfl, _, _, DOk.nil, (resOk1 Try.results5 rfl), ⟨_, rfl, h⟩⟩
        · have h := h.2 hc33
          refine Go.condF (btF e32_34 hc33) ?_
          refine Go.skip ?_
          refine Go.seq ?_
          refine Go.region rfl ?_
          refine GoOps.q (v := .pointer y16) rfl rfl (by decide) (q_move e32_4) ?_
          refine call_dst rfl (by decide) body15 (geom_Geom_Sectors_s _ _ _ h) rfl ?_
          rintro _ H34 ⟨y35, rfl, h⟩
          obtain ⟨hm39, h⟩ := h
          refine op_dst rfl rfl (by decide) (do_mk (zs := [.int .i64 0]) slice23 bytes3 (by decide) zero3 rfl rfl (by decide) rfl rfl hm39 fun r36 H37 hb38 => ?_) 
          have h := h r36 H37 hb38
          refine GoOps.q (v := Sl.v r36) rfl rfl (by decide) (q_assign rfl) ?_
          refine GoOps.nil ?_
          refine Go.seq ?_
          refine Go.region rfl ?_
          refine GoOps.q (v := .bool false) rfl rfl (by decide) (q_assign rfl) ?_
          refine GoOps.nil ?_
          refine Go.seq ?_
          refine Go.seq ?_
          refine Go.region rfl ?_
          refine GoOps.q (v := .int .i64 0) rfl rfl (by decide) (q_assign rfl) ?_
          refine GoOps.nil ?_
          refine Go.block ?_
          refine loop_go (fun ρ (s40 : Bool × Int) => ρ 3 = .pointer (some a8) ∧ ρ 4 = .pointer y16 ∧ ρ 6 = Sl.v r36 ∧ ρ 7 = .bool s40.1 ∧ ρ 8 = .int .i64 s40.2) h ⟨e32_3, e32_4, rfl, rfl, rfl⟩ ?_
          clear h
          intro ρ s40 H43 again41 hE h hagain41
          obtain ⟨e42_3, e42_4, e42_6, e42_7, e42_8⟩ := hE
          refine Go.seq ?_
          refine Go.seq ?_
          refine Go.region rfl ?_
          refine GoOps.q (v := .int .i64 s40.2) rfl rfl (by decide) (q_move e42_8) ?_
          refine GoOps.q (v := .bool (decide (s40.2 < 2))) rfl rfl (by decide) (q_lss rfl rfl) ?_
          refine GoOps.nil ?_
          rcases bor (decide (s40.2 < 2)) with hc44 | hc44
          · have h := h.1 hc44
            refine Go.condT (btT rfl hc44) ?_
            refine Go.skip ?_
            refine Go.seq ?_
            refine Go.block ?_
            refine Go.seq ?_
            refine Go.region rfl ?_
            refine GoOps.q (v := .bool s40.1) rfl rfl (by decide) (q_move e42_7) ?_
            refine GoOps.q (v := .bool s40.1) rfl rfl (by decide) (q_move rfl) ?_
            refine join_ops 7 (fun ρ (s46 : Bool) => ρ 3 = .pointer (some a8) ∧ ρ 4 = .pointer y16 ∧ ρ 6 = Sl.v r36 ∧ ρ 8 = .int .i64 s40.2 ∧ ρ 50 = .bool s46) h ?_ ?_ <;> clear h
            · intro s46 H48 ρ h hE
              obtain ⟨e49_3, e49_4, e49_6, e49_8, e49_50⟩ := hE
              refine GoOps.q (v := .bool s46) rfl rfl (by decide) (q_move e49_50) ?_
              refine join_ops 9 (fun ρ (s51 : Bool) => ρ 3 = .pointer (some a8) ∧ ρ 4 = .pointer y16 ∧ ρ 6 = Sl.v r36 ∧ ρ 8 = .int .i64 s40.2 ∧ ρ 60 = .bool s51) h ?_ ?_ <;> clear h
              · intro s51 H53 ρ h hE
                obtain ⟨e54_3, e54_4, e54_6, e54_8, e54_60⟩ := hE
                refine GoOps.q (v := .bool s51) rfl rfl (by decide) (q_assign e54_60) ?_
                refine GoOps.nil ?_
                refine Go.seq ?_
                refine Go.region rfl ?_
                refine GoOps.q (v := .int .i64 0) rfl rfl (by decide) (q_assign rfl) ?_
                refine GoOps.nil ?_
                refine Go.block ?_
                refine loop_go (fun ρ (s55 : Bool × Int) => ρ 3 = .pointer (some a8) ∧ ρ 4 = .pointer y16 ∧ ρ 6 = Sl.v r36 ∧ ρ 7 = .bool s55.1 ∧ ρ 8 = .int .i64 s40.2 ∧ ρ 9 = .int .i64 s55.2) h ⟨e54_3, e54_4, e54_6, rfl, e54_8, rfl⟩ ?_
                clear h
                intro ρ s55 H58 again56 hE h hagain56
                obtain ⟨e57_3, e57_4, e57_6, e57_7, e57_8, e57_9⟩ := hE
                refine Go.seq ?_
                refine Go.seq ?_
                refine Go.region rfl ?_
                refine GoOps.q (v := .int .i64 s55.2) rfl rfl (by decide) (q_move e57_9) ?_
                refine GoOps.q (v := .pointer y16) rfl rfl (by decide) (q_move e57_4) ?_
                refine call_dst rfl (by decide) body20 (geom_Geom_Pages_s _ _ _ h) rfl ?_
                rintro _ H59 ⟨y60, rfl, h⟩
                refine GoOps.q (v := .bool (decide (s55.2 < y60))) rfl rfl (by decide) (q_lss rfl rfl) ?_
                refine GoOps.nil ?_
                rcases bor (decide (s55.2 < y60)) with hc61 | hc61
                · have h := h.1 hc61
                  refine Go.condT (btT rfl hc61) ?_
                  refine Go.skip ?_
                  refine Go.seq ?_
                  refine Go.block ?_
                  refine Go.region rfl ?_
                  refine GoOps.q (v := .bool s55.1) rfl rfl (by decide) (q_move e57_7) ?_
                  refine GoOps.q (v := .bool s55.1) rfl rfl (by decide) (q_move rfl) ?_
                  refine join_ops 8 (fun ρ (s63 : Bool) => ρ 3 = .pointer (some a8) ∧ ρ 4 = .pointer y16 ∧ ρ 6 = Sl.v r36 ∧ ρ 8 = .int .i64 s40.2 ∧ ρ 9 = .int .i64 s55.2 ∧ ρ 76 = .bool s63) h ?_ ?_ <;> clear h
                  · intro s63 H65 ρ h hE
                    obtain ⟨e66_3, e66_4, e66_6, e66_8, e66_9, e66_76⟩ := hE
                    refine GoOps.q (v := .bool s63) rfl rfl (by decide) (q_move e66_76) ?_
                    refine join_ops 8 (fun ρ (s68 : Bool) => ρ 3 = .pointer (some a8) ∧ ρ 4 = .pointer y16 ∧ ρ 6 = Sl.v r36 ∧ ρ 8 = .int .i64 s40.2 ∧ ρ 9 = .int .i64 s55.2 ∧ ρ 85 = .bool s68) h ?_ ?_ <;> clear h
                    · intro s68 H70 ρ h hE
                      obtain ⟨e71_3, e71_4, e71_6, e71_8, e71_9, e71_85⟩ := hE
                      refine GoOps.q (v := .bool s68) rfl rfl (by decide) (q_assign e71_85) ?_
                      refine GoOps.nil ?_
                      refine Go.inBlock ?_
                      refine Go.region rfl ?_
                      refine GoOps.q (v := .int .i64 s55.2) rfl rfl (by decide) (q_move e71_9) ?_
                      refine GoOps.q (v := .int .i64 (IntKind.wrap .i64 (s55.2 + 1))) rfl rfl (by decide) (q_add rfl rfl) ?_
                      refine GoOps.q (v := .int .i64 (IntKind.wrap .i64 (s55.2 + 1))) rfl rfl (by decide) (q_assign rfl) ?_
                      refine GoOps.nil ?_
                      exact hagain56 _ _ _ h ⟨e71_3, e71_4, e71_6, rfl, e71_8, rfl⟩
                    · intro j69 hj69 h
                      rcases bor s63 with hc67 | hc67
                      · have h := h.1 hc67
                        refine no_dst (want_no rfl rfl rfl hc67) rfl (by decide) ?_
                        refine no_dst (want_no rfl rfl rfl hc67) rfl (by decide) ?_
                        refine no_dst (want_no rfl rfl rfl hc67) rfl (by decide) ?_
                        refine no_dst (want_no rfl rfl rfl hc67) rfl (by decide) ?_
                        refine no_dst (want_no rfl rfl rfl hc67) rfl (by decide) ?_
                        refine no_dst (want_no rfl rfl rfl hc67) rfl (by decide) ?_
                        refine no_dst (want_no rfl rfl rfl hc67) rfl (by decide) ?_
                        refine GoOps.q (v := .bool true) rfl rfl (by decide) (q_pickT (btT rfl hc67) rfl) ?_
                        exact hj69 _ _ _ h ⟨e66_3, e66_4, e66_6, e66_8, e66_9, rfl⟩
                      · have h := h.2 hc67
                        refine GoOps.q (v := Sl.v r36) (want_yes rfl rfl rfl hc67) rfl (by decide) (q_move e66_6) ?_
                        refine GoOps.q (v := .pointer y16) (want_yes rfl rfl rfl hc67) rfl (by decide) (q_move e66_4) ?_
                        refine GoOps.q (v := .int .i64 s55.2) (want_yes rfl rfl rfl hc67) rfl (by decide) (q_move e66_9) ?_
                        refine GoOps.q (v := .int .i64 s40.2) (want_yes rfl rfl rfl hc67) rfl (by decide) (q_move e66_8) ?_
                        refine call_dst (want_yes rfl rfl rfl hc67) (by decide) body21 (geom_Geom_Page_s _ _ _ _ _ _ h) rfl ?_
                        rintro _ H72 ⟨y73, rfl, h⟩
                        refine call_dst (want_yes rfl rfl rfl hc67) (by decide) body16 (keelsonlaw4_takes_s _ _ _ _ _ h) rfl ?_
                        rintro _ H74 ⟨y75, rfl, h⟩
                        refine GoOps.q (v := .bool (!y75)) (want_yes rfl rfl rfl hc67) rfl (by decide) (q_not rfl) ?_
                        refine GoOps.q (v := .bool (!y75)) rfl rfl (by decide) (q_pickF (btF rfl hc67) rfl) ?_
                        exact hj69 _ _ _ h ⟨e66_3, e66_4, e66_6, e66_8, e66_9, rfl⟩
                  · intro j64 hj64 h
                    rcases bor s55.1 with hc62 | hc62
                    · have h := h.1 hc62
                      refine no_dst (want_no rfl rfl rfl hc62) rfl (by decide) ?_
                      refine no_dst (want_no rfl rfl rfl hc62) rfl (by decide) ?_
                      refine no_dst (want_no rfl rfl rfl hc62) rfl (by decide) ?_
                      refine no_dst (want_no rfl rfl rfl hc62) rfl (by decide) ?_
                      refine no_dst (want_no rfl rfl rfl hc62) rfl (by decide) ?_
                      refine no_dst (want_no rfl rfl rfl hc62) rfl (by decide) ?_
                      refine no_dst (want_no rfl rfl rfl hc62) rfl (by decide) ?_
                      refine GoOps.q (v := .bool true) rfl rfl (by decide) (q_pickT (btT rfl hc62) rfl) ?_
                      exact hj64 _ _ _ h ⟨e57_3, e57_4, e57_6, e57_8, e57_9, rfl⟩
                    · have h := h.2 hc62
                      refine GoOps.q (v := Sl.v r36) (want_yes rfl rfl rfl hc62) rfl (by decide) (q_move e57_6) ?_
                      refine GoOps.q (v := .pointer y16) (want_yes rfl rfl rfl hc62) rfl (by decide) (q_move e57_4) ?_
                      refine GoOps.q (v := .int .i64 s55.2) (want_yes rfl rfl rfl hc62) rfl (by decide) (q_move e57_9) ?_
                      refine GoOps.q (v := .int .i64 s40.2) (want_yes rfl rfl rfl hc62) rfl (by decide) (q_move e57_8) ?_
                      refine call_dst (want_yes rfl rfl rfl hc62) (by decide) body21 (geom_Geom_Page_s _ _ _ _ _ _ h) rfl ?_
                      rintro _ H76 ⟨y77, rfl, h⟩
                      refine call_dst (want_yes rfl rfl rfl hc62) (by decide) body16 (keelsonlaw4_takes_s _ _ _ _ _ h) rfl ?_
                      rintro _ H78 ⟨y79, rfl, h⟩
                      refine GoOps.q (v := .bool (!y79)) (want_yes rfl rfl rfl hc62) rfl (by decide) (q_not rfl) ?_
                      refine GoOps.q (v := .bool (!y79)) rfl rfl (by decide) (q_pickF (btF rfl hc62) rfl) ?_
                      exact hj64 _ _ _ h ⟨e57_3, e57_4, e57_6, e57_8, e57_9, rfl⟩
                · have h := h.2 hc61
                  refine Go.condF (btF rfl hc61) ?_
                  refine Go.exit rfl ?_
                  refine Go.inBlock ?_
                  refine Go.region rfl ?_
                  refine GoOps.q (v := .int .i64 s40.2) rfl rfl (by decide) (q_move e57_8) ?_
                  refine GoOps.q (v := .int .i64 (IntKind.wrap .i64 (s40.2 + 1))) rfl rfl (by decide) (q_add rfl rfl) ?_
                  refine GoOps.q (v := .int .i64 (IntKind.wrap .i64 (s40.2 + 1))) rfl rfl (by decide) (q_assign rfl) ?_
                  refine GoOps.nil ?_
                  exact hagain41 _ _ _ h ⟨e57_3, e57_4, e57_6, e57_7, rfl⟩
              · intro j52 hj52 h
                rcases bor s46 with hc50 | hc50
                · have h := h.1 hc50
                  refine no_dst (want_no rfl rfl rfl hc50) rfl (by decide) ?_
                  refine no_dst (want_no rfl rfl rfl hc50) rfl (by decide) ?_
                  refine no_dst (want_no rfl rfl rfl hc50) rfl (by decide) ?_
                  refine no_dst (want_no rfl rfl rfl hc50) rfl (by decide) ?_
                  refine no_dst (want_no rfl rfl rfl hc50) rfl (by decide) ?_
                  refine no_dst (want_no rfl rfl rfl hc50) rfl (by decide) ?_
                  refine no_dst (want_no rfl rfl rfl hc50) rfl (by decide) ?_
                  refine no_dst (want_no rfl rfl rfl hc50) rfl (by decide) ?_
                  refine GoOps.q (v := .bool true) rfl rfl (by decide) (q_pickT (btT rfl hc50) rfl) ?_
                  exact hj52 _ _ _ h ⟨e49_3, e49_4, e49_6, e49_8, rfl⟩
                · have h := h.2 hc50
                  refine GoOps.q (v := Sl.v r36) (want_yes rfl rfl rfl hc50) rfl (by decide) (q_move e49_6) ?_
                  refine GoOps.q (v := .pointer y16) (want_yes rfl rfl rfl hc50) rfl (by decide) (q_move e49_4) ?_
                  refine GoOps.q (v := .int .i64 s40.2) (want_yes rfl rfl rfl hc50) rfl (by decide) (q_move e49_8) ?_
                  refine call_dst (want_yes rfl rfl rfl hc50) (by decide) body18 (geom_Geom_Region_s _ _ _ _ h) rfl ?_
                  rintro _ H80 ⟨y81, rfl, h⟩
                  refine GoOps.q (v := .pointer y16) (want_yes rfl rfl rfl hc50) rfl (by decide) (q_move e49_4) ?_
                  refine call_dst (want_yes rfl rfl rfl hc50) (by decide) body19 (geom_Geom_RegionLen_s _ _ _ h) rfl ?_
                  rintro _ H82 ⟨y83, rfl, h⟩
                  refine call_dst (want_yes rfl rfl rfl hc50) (by decide) body16 (keelsonlaw4_takes_s _ _ _ _ _ h) rfl ?_
                  rintro _ H84 ⟨y85, rfl, h⟩
                  refine GoOps.q (v := .bool (!y85)) (want_yes rfl rfl rfl hc50) rfl (by decide) (q_not rfl) ?_
                  refine GoOps.q (v := .bool (!y85)) rfl rfl (by decide) (q_pickF (btF rfl hc50) rfl) ?_
                  exact hj52 _ _ _ h ⟨e49_3, e49_4, e49_6, e49_8, rfl⟩
            · intro j47 hj47 h
              rcases bor s40.1 with hc45 | hc45
              · have h := h.1 hc45
                refine no_dst (want_no rfl rfl rfl hc45) rfl (by decide) ?_
                refine no_dst (want_no rfl rfl rfl hc45) rfl (by decide) ?_
                refine no_dst (want_no rfl rfl rfl hc45) rfl (by decide) ?_
                refine no_dst (want_no rfl rfl rfl hc45) rfl (by decide) ?_
                refine no_dst (want_no rfl rfl rfl hc45) rfl (by decide) ?_
                refine no_dst (want_no rfl rfl rfl hc45) rfl (by decide) ?_
                refine GoOps.q (v := .bool true) rfl rfl (by decide) (q_pickT (btT rfl hc45) rfl) ?_
                exact hj47 _ _ _ h ⟨e42_3, e42_4, e42_6, e42_8, rfl⟩
              · have h := h.2 hc45
                refine GoOps.q (v := Sl.v r36) (want_yes rfl rfl rfl hc45) rfl (by decide) (q_move e42_6) ?_
                refine GoOps.q (v := .pointer y16) (want_yes rfl rfl rfl hc45) rfl (by decide) (q_move e42_4) ?_
                refine GoOps.q (v := .int .i64 s40.2) (want_yes rfl rfl rfl hc45) rfl (by decide) (q_move e42_8) ?_
                refine call_dst (want_yes rfl rfl rfl hc45) (by decide) body17 (geom_Geom_Super_s _ _ _ _ h) rfl ?_
                rintro _ H86 ⟨y87, rfl, h⟩
                refine call_dst (want_yes rfl rfl rfl hc45) (by decide) body16 (keelsonlaw4_takes_s _ _ _ _ _ h) rfl ?_
                rintro _ H88 ⟨y89, rfl, h⟩
                refine GoOps.q (v := .bool (!y89)) (want_yes rfl rfl rfl hc45) rfl (by decide) (q_not rfl) ?_
                refine GoOps.q (v := .bool (!y89)) rfl rfl (by decide) (q_pickF (btF rfl hc45) rfl) ?_
                exact hj47 _ _ _ h ⟨e42_3, e42_4, e42_6, e42_8, rfl⟩
          · have h := h.2 hc44
            refine Go.condF (btF rfl hc44) ?_
            refine Go.exit rfl ?_
            refine Go.seq ?_
            refine Go.seq ?_
            refine Go.region rfl ?_
            refine GoOps.q (v := .int .i64 0) rfl rfl (by decide) (q_assign rfl) ?_
            refine GoOps.nil ?_
            refine Go.block ?_
            refine loop_go (fun ρ (s90 : Bool × Int) => ρ 3 = .pointer (some a8) ∧ ρ 4 = .pointer y16 ∧ ρ 6 = Sl.v r36 ∧ ρ 7 = .bool s90.1 ∧ ρ 10 = .int .i64 s90.2) h ⟨e42_3, e42_4, e42_6, e42_7, rfl⟩ ?_
            clear h
            intro ρ s90 H93 again91 hE h hagain91
            obtain ⟨e92_3, e92_4, e92_6, e92_7, e92_10⟩ := hE
            refine Go.seq ?_
            refine Go.seq ?_
            refine Go.region rfl ?_
            refine GoOps.q (v := .int .i64 s90.2) rfl rfl (by decide) (q_move e92_10) ?_
            refine GoOps.q (v := .pointer (some (a8.add 1))) rfl rfl (by decide) (q_fieldAddr foff25_1 e92_3) ?_
            obtain ⟨x94, hx95, h⟩ := h
            refine GoOps.q (v := .int .i64 x94) rfl rfl (by decide) (q_load scalar3 rfl hx95) ?_
            refine GoOps.q (v := .bool (decide (s90.2 < x94))) rfl rfl (by decide) (q_lss rfl rfl) ?_
            refine GoOps.nil ?_
            rcases bor (decide (s90.2 < x94)) with hc96 | hc96
            · have h := h.1 hc96
              refine Go.condT (btT rfl hc96) ?_
              refine Go.skip ?_
              refine Go.seq ?_
              refine Go.block ?_
              refine Go.draw mixed ?_
              refine plan_pure (i := 0) (d := 92) (S2 := 1) (v := .bool s90.1) rfl (by decide +kernel) rfl (q_move e92_7) ?_
              refine plan_pure (i := 1) (d := 93) (S2 := 3) (v := .bool s90.1) rfl (by decide +kernel) rfl (q_move rfl) ?_
              refine join_plan 2047 [7] (fun ρ (s98 : Bool) => ρ 3 = .pointer (some a8) ∧ ρ 4 = .pointer y16 ∧ ρ 6 = Sl.v r36 ∧ ρ 7 = .bool s90.1 ∧ ρ 10 = .int .i64 s90.2 ∧ ρ 102 = .bool s98) h ?_ ?_ <;> clear h
              · intro s98 H100 ρ h hE
                obtain ⟨e101_3, e101_4, e101_6, e101_7, e101_10, e101_102⟩ := hE
                refine plan_one (j := 11) (S2 := 4095) (by decide +kernel) rfl (by decide) rfl ?_
                refine OpQ.do (v := .bool s98) (q_assign e101_102) ⟨⟨.inl ⟨[11], by decide +kernel, rfl⟩, trivial⟩, ?_⟩
                refine plan_done (by decide +kernel) ?_
                refine Go.inBlock ?_
                refine Go.region rfl ?_
                refine GoOps.q (v := .int .i64 s90.2) rfl rfl (by decide) (q_move e101_10) ?_
                refine GoOps.q (v := .int .i64 (IntKind.wrap .i64 (s90.2 + 1))) rfl rfl (by decide) (q_add rfl rfl) ?_
                refine GoOps.q (v := .int .i64 (IntKind.wrap .i64 (s90.2 + 1))) rfl rfl (by decide) (q_assign rfl) ?_
                refine GoOps.nil ?_
                exact hagain91 _ _ _ h ⟨e101_3, e101_4, e101_6, rfl, rfl⟩
              · intro j99 hj99 h
                rcases bor s90.1 with hc97 | hc97
                · have h := h.1 hc97
                  refine plan_skip (i := 2) (d := 94) (S2 := 7) rfl (by decide +kernel) (want_no rfl rfl rfl hc97) ?_
                  refine plan_skip (i := 3) (d := 95) (S2 := 15) rfl (by decide +kernel) (want_no rfl rfl rfl hc97) ?_
                  refine plan_skip (i := 4) (d := 96) (S2 := 31) rfl (by decide +kernel) (want_no rfl rfl rfl hc97) ?_
                  refine plan_skip (i := 5) (d := 97) (S2 := 63) rfl (by decide +kernel) (want_no rfl rfl rfl hc97) ?_
                  refine plan_skip (i := 6) (d := 98) (S2 := 127) rfl (by decide +kernel) (want_no rfl rfl rfl hc97) ?_
                  refine plan_skip (i := 7) (d := 99) (S2 := 255) rfl (by decide +kernel) (want_no rfl rfl rfl hc97) ?_
                  refine plan_skip (i := 8) (d := 100) (S2 := 511) rfl (by decide +kernel) (want_no rfl rfl rfl hc97) ?_
                  refine plan_skip (i := 9) (d := 101) (S2 := 1023) rfl (by decide +kernel) (want_no rfl rfl rfl hc97) ?_
                  refine plan_pure (i := 10) (d := 102) (S2 := 2047) (v := .bool true) rfl (by decide +kernel) rfl (q_pickT (btT rfl hc97) rfl) ?_
                  refine plan_weaken (L2 := [7]) (by decide) ?_
                  exact hj99 _ _ _ h ⟨e92_3, e92_4, e92_6, e92_7, e92_10, rfl⟩
                · have h := h.2 hc97
                  refine plan_pure (i := 2) (d := 94) (S2 := 7) (v := Sl.v r36) rfl (by decide +kernel) (want_yes rfl rfl rfl hc97) (q_move e92_6) ?_
                  refine plan_pure (i := 3) (d := 95) (S2 := 15) (v := .pointer y16) rfl (by decide +kernel) (want_yes rfl rfl rfl hc97) (q_move e92_4) ?_
                  refine plan_pure (i := 4) (d := 96) (S2 := 31) (v := .int .i64 s90.2) rfl (by decide +kernel) (want_yes rfl rfl rfl hc97) (q_move e92_10) ?_
                  refine plan_pure (i := 6) (d := 98) (S2 := 95) (v := .pointer (some (a8.add 2))) rfl (by decide +kernel) (want_yes rfl rfl rfl hc97) (q_fieldAddr foff25_2 e92_3) ?_
                  obtain ⟨x102, hx103, h⟩ := h
                  refine plan_load (i := 7) (d := 99) (S2 := 223) (v := .int .i64 x102) rfl (by decide +kernel) (want_yes rfl rfl rfl hc97) (q_load scalar3 rfl hx103) ?_
                  refine plan_one (j := 5) (S2 := 255) (by decide +kernel) rfl (by decide) (want_yes rfl rfl rfl hc97) ?_
                  refine do_call2 body13 (geom_Geom_Seg_s _ _ _ _ h) rfl ?_
                  rintro _ H104 ⟨y105, rfl, h⟩
                  obtain ⟨hr106, h⟩ := h
                  refine ⟨⟨.inr ⟨_, _, rfl, rfl, q_load scalar3 rfl hr106⟩, trivial⟩, ?_⟩
                  refine plan_one (j := 8) (S2 := 511) (by decide +kernel) rfl (by decide) (want_yes rfl rfl rfl hc97) ?_
                  refine do_call2 body16 (keelsonlaw4_takes_s _ _ _ _ _ h) rfl ?_
                  rintro _ H107 ⟨y108, rfl, h⟩
                  refine ⟨⟨.inl ⟨[8], by decide +kernel, rfl⟩, trivial⟩, ?_⟩
                  refine plan_pure (i := 9) (d := 101) (S2 := 1023) (v := .bool (!y108)) rfl (by decide +kernel) (want_yes rfl rfl rfl hc97) (q_not rfl) ?_
                  refine plan_pure (i := 10) (d := 102) (S2 := 2047) (v := .bool (!y108)) rfl (by decide +kernel) rfl (q_pickF (btF rfl hc97) rfl) ?_
                  exact hj99 _ _ _ h ⟨e92_3, e92_4, e92_6, e92_7, e92_10, rfl⟩
            · have h := h.2 hc96
              refine Go.condF (btF rfl hc96) ?_
              refine Go.exit rfl ?_
              refine Go.seq ?_
              refine Go.seq ?_
              refine Go.region rfl ?_
              refine GoOps.q (v := .int .i64 0) rfl rfl (by decide) (q_assign rfl) ?_
              refine GoOps.nil ?_
              refine Go.block ?_
              refine loop_go (fun ρ (s109 : Bool × Int) => ρ 6 = Sl.v r36 ∧ ρ 7 = .bool s109.1 ∧ ρ 11 = .int .i64 s109.2) h ⟨e92_6, e92_7, rfl⟩ ?_
              clear h
              intro ρ s109 H112 again110 hE h hagain110
              obtain ⟨e111_6, e111_7, e111_11⟩ := hE
              refine Go.seq ?_
              refine Go.seq ?_
              refine Go.region rfl ?_
              refine GoOps.q (v := .int .i64 s109.2) rfl rfl (by decide) (q_move e111_11) ?_
              refine GoOps.q (v := Sl.v r36) rfl rfl (by decide) (q_move e111_6) ?_
              refine GoOps.q (v := .int .i64 (r36.len : Int)) rfl rfl (by decide) (q_len Try.underlying23 rfl (ls1 rfl)) ?_
              refine GoOps.q (v := .bool (decide (s109.2 < (r36.len : Int)))) rfl rfl (by decide) (q_lss rfl rfl) ?_
              refine GoOps.nil ?_
              rcases bor (decide (s109.2 < (r36.len : Int))) with hc113 | hc113
              · have h := h.1 hc113
                refine Go.condT (btT rfl hc113) ?_
                refine Go.skip ?_
                refine Go.seq ?_
                refine Go.block ?_
                refine Go.region rfl ?_
                refine GoOps.q (v := .bool s109.1) rfl rfl (by decide) (q_move e111_7) ?_
                refine GoOps.q (v := .bool s109.1) rfl rfl (by decide) (q_move rfl) ?_
                refine join_ops 6 (fun ρ (s115 : Bool) => ρ 6 = Sl.v r36 ∧ ρ 11 = .int .i64 s109.2 ∧ ρ 116 = .bool s115) h ?_ ?_ <;> clear h
                · intro s115 H117 ρ h hE
                  obtain ⟨e118_6, e118_11, e118_116⟩ := hE
                  refine GoOps.q (v := .bool s115) rfl rfl (by decide) (q_assign e118_116) ?_
                  refine GoOps.nil ?_
                  refine Go.inBlock ?_
                  refine Go.region rfl ?_
                  refine GoOps.q (v := .int .i64 s109.2) rfl rfl (by decide) (q_move e118_11) ?_
                  refine GoOps.q (v := .int .i64 (IntKind.wrap .i64 (s109.2 + 1))) rfl rfl (by decide) (q_add rfl rfl) ?_
                  refine GoOps.q (v := .int .i64 (IntKind.wrap .i64 (s109.2 + 1))) rfl rfl (by decide) (q_assign rfl) ?_
                  refine GoOps.nil ?_
                  exact hagain110 _ _ _ h ⟨e118_6, rfl, rfl⟩
                · intro j116 hj116 h
                  rcases bor s109.1 with hc114 | hc114
                  · have h := h.1 hc114
                    refine no_dst (want_no rfl rfl rfl hc114) rfl (by decide) ?_
                    refine no_dst (want_no rfl rfl rfl hc114) rfl (by decide) ?_
                    refine no_dst (want_no rfl rfl rfl hc114) rfl (by decide) ?_
                    refine no_dst (want_no rfl rfl rfl hc114) rfl (by decide) ?_
                    refine no_dst (want_no rfl rfl rfl hc114) rfl (by decide) ?_
                    refine GoOps.q (v := .bool true) rfl rfl (by decide) (q_pickT (btT rfl hc114) rfl) ?_
                    exact hj116 _ _ _ h ⟨e111_6, e111_11, rfl⟩
                  · have h := h.2 hc114
                    refine GoOps.q (v := Sl.v r36) (want_yes rfl rfl rfl hc114) rfl (by decide) (q_move e111_6) ?_
                    refine GoOps.q (v := .int .i64 s109.2) (want_yes rfl rfl rfl hc114) rfl (by decide) (q_move e111_11) ?_
                    obtain ⟨a119, ha120, h⟩ := h
                    refine GoOps.q (v := .pointer (some a119)) (want_yes rfl rfl rfl hc114) rfl (by decide) (q_idx slice23 ha120 rfl rfl) ?_
                    obtain ⟨x121, hx122, h⟩ := h
                    refine GoOps.q (v := .int .i64 x121) (want_yes rfl rfl rfl hc114) rfl (by decide) (q_load scalar3 rfl hx122) ?_
                    refine GoOps.q (v := .bool (x121 != 1)) (want_yes rfl rfl rfl hc114) rfl (by decide) (q_neq rfl rfl) ?_
                    refine GoOps.q (v := .bool (x121 != 1)) rfl rfl (by decide) (q_pickF (btF rfl hc114) rfl) ?_
                    exact hj116 _ _ _ h ⟨e111_6, e111_11, rfl⟩
              · have h := h.2 hc113
                refine Go.condF (btF rfl hc113) ?_
                refine Go.exit rfl ?_
                refine Go.seq ?_
                refine Go.region rfl ?_
                refine GoOps.q (v := .bool s109.1) rfl rfl (by decide) (q_move e111_7) ?_
                refine GoOps.q (v := .bool (!s109.1)) rfl rfl (by decide) (q_not rfl) ?_
                refine GoOps.q (v := .bool (!s109.1)) rfl rfl (by decide) (q_move rfl) ?_
                refine join_ops 2 (fun ρ (s124 : Bool) => ρ 121 = .bool s124) h ?_ ?_ <;> clear h
                · intro s124 H126 ρ h hE
                  have e127_121 := hE
                  refine GoOps.q (v := .bool s124) rfl rfl (by decide) (q_assign e127_121) ?_
                  refine GoOps.nil ?_
                  exact Go.ret ⟨.inl rfl, _, _, DOk.nil, (resOk1 Try.results5 rfl), ⟨_, rfl, h⟩⟩
                · intro j125 hj125 h
                  rcases bor (!s109.1) with hc123 | hc123
                  · have h := h.1 hc123
                    refine call_dst (want_yes rfl rfl rfl hc123) (by decide) body9 (keelsonlaw4_awake_s _ _ h) rfl ?_
                    rintro _ H128 ⟨y129, rfl, h⟩
                    refine GoOps.q (v := .bool y129) rfl rfl (by decide) (q_pickT (btT rfl hc123) rfl) ?_
                    exact hj125 _ _ _ h rfl
                  · have h := h.2 hc123
                    refine no_dst (want_no rfl rfl rfl hc123) rfl (by decide) ?_
                    refine GoOps.q (v := .bool false) rfl rfl (by decide) (q_pickF (btF rfl hc123) rfl) ?_
                    exact hj125 _ _ _ h rfl
      · intro j30 hj30 h
        rcases bor s24 with hc28 | hc28
        · have h := h.1 hc28
          refine no_dst (want_no rfl rfl rfl hc28) rfl (by decide) ?_
          refine no_dst (want_no rfl rfl rfl hc28) rfl (by decide) ?_
          refine no_dst (want_no rfl rfl rfl hc28) rfl (by decide) ?_
          refine GoOps.q (v := .bool true) rfl rfl (by decide) (q_pickT (btT rfl hc28) rfl) ?_
          exact hj30 _ _ _ h ⟨e27_3, e27_4, rfl⟩
        · have h := h.2 hc28
          refine GoOps.q (v := .pointer y16) (want_yes rfl rfl rfl hc28) rfl (by decide) (q_move e27_4) ?_
          refine call_dst (want_yes rfl rfl rfl hc28) (by decide) body15 (geom_Geom_Sectors_s _ _ _ h) rfl ?_
          rintro _ H130 ⟨y131, rfl, h⟩
          refine GoOps.q (v := .bool (decide (4096 < y131))) (want_yes rfl rfl rfl hc28) rfl (by decide) (q_gtr rfl rfl) ?_
          refine GoOps.q (v := .bool (decide (4096 < y131))) rfl rfl (by decide) (q_pickF (btF rfl hc28) rfl) ?_
          exact hj30 _ _ _ h ⟨e27_3, e27_4, rfl⟩
    · intro j25 hj25 h
      rcases bor s19 with hc23 | hc23
      · have h := h.1 hc23
        refine no_dst (want_no rfl rfl rfl hc23) rfl (by decide) ?_
        refine no_dst (want_no rfl rfl rfl hc23) rfl (by decide) ?_
        refine no_dst (want_no rfl rfl rfl hc23) rfl (by decide) ?_
        refine GoOps.q (v := .bool true) rfl rfl (by decide) (q_pickT (btT rfl hc23) rfl) ?_
        exact hj25 _ _ _ h ⟨e22_3, e22_4, rfl⟩
      · have h := h.2 hc23
        refine GoOps.q (v := .pointer y16) (want_yes rfl rfl rfl hc23) rfl (by decide) (q_move e22_4) ?_
        refine call_dst (want_yes rfl rfl rfl hc23) (by decide) body15 (geom_Geom_Sectors_s _ _ _ h) rfl ?_
        rintro _ H132 ⟨y133, rfl, h⟩
        refine GoOps.q (v := .bool (decide (y133 < 1))) (want_yes rfl rfl rfl hc23) rfl (by decide) (q_lss rfl rfl) ?_
        refine GoOps.q (v := .bool (decide (y133 < 1))) rfl rfl (by decide) (q_pickF (btF rfl hc23) rfl) ?_
        exact hj25 _ _ _ h ⟨e22_3, e22_4, rfl⟩
  · intro j20 hj20 h
    rcases bor (y17 != 0) with hc18 | hc18
    · have h := h.1 hc18
      refine no_dst (want_no rfl rfl rfl hc18) rfl (by decide) ?_
      refine no_dst (want_no rfl rfl rfl hc18) rfl (by decide) ?_
      refine GoOps.q (v := .bool true) rfl rfl (by decide) (q_pickT (btT rfl hc18) rfl) ?_
      exact hj20 _ _ _ h ⟨rfl, rfl, rfl⟩
    · have h := h.2 hc18
      refine GoOps.q (v := .pointer y16) (want_yes rfl rfl rfl hc18) rfl (by decide) (q_move rfl) ?_
      refine GoOps.q (v := .bool (Option.isNone y16)) (want_yes rfl rfl rfl hc18) rfl (by decide) (q_eqlPn Try.underlying27 rfl rfl) ?_
      refine GoOps.q (v := .bool (Option.isNone y16)) rfl rfl (by decide) (q_pickF (btF rfl hc18) rfl) ?_
      exact hj20 _ _ _ h ⟨rfl, rfl, rfl⟩

/-- keelson.keelsonref1.Within -/
def keelsonref1_Within (p0 : Int) (p1 : Int) (p2 : Int) (H : PH) (Q : Bool → PH → Prop) : Prop :=
  mJoin (fun (s2 : Bool) (H4 : PH) =>
  Q s2 H4)
  fun j3 =>
  mIf (decide (p1 ≤ p0))
  (j3 (decide (p0 ≤ p2)) H)
  (j3 false H)

set_option maxRecDepth 20000 in
set_option maxHeartbeats 1000000 in
theorem keelsonref1_Within_s (p0 : Int) (p1 : Int) (p2 : Int) (H : PH) (Q : Bool → PH → Prop) (h : keelsonref1_Within p0 p1 p2 H Q) :
    CallsH Try.prog 39 #[.int .i64 p0, .int .i64 p1, .int .i64 p2] H (fun v H' => ∃ (r0 : Bool), v = .bool r0 ∧ Q r0 H') := by
  unfold keelsonref1_Within at h
  refine callsH_of_go Try.func39 rfl Try.ntmps39 (Nat.le_of_ble_eq_true rfl) ?_
  refine Go.seq ?_
  refine Go.region rfl ?_
  refine GoOps.q (v := .bool false) rfl rfl (by decide) (q_assign rfl) ?_
  refine GoOps.nil ?_
  refine Go.seq ?_
  refine Go.region rfl ?_
  refine GoOps.q (v := .int .i64 p0) rfl rfl (by decide) (q_move rfl) ?_
  refine GoOps.q (v := .int .i64 p1) rfl rfl (by decide) (q_move rfl) ?_
  refine GoOps.q (v := .bool (decide (p1 ≤ p0))) rfl rfl (by decide) (q_geq rfl rfl) ?_
  refine GoOps.q (v := .bool (decide (p1 ≤ p0))) rfl rfl (by decide) (q_move rfl) ?_
  refine join_ops 4 (fun ρ (s2 : Bool) => ρ 14 = .bool s2) h ?_ ?_ <;> clear h
  · intro s2 H4 ρ h hE
    have e5_14 := hE
    refine GoOps.q (v := .bool s2) rfl rfl (by decide) (q_assign e5_14) ?_
    refine GoOps.nil ?_
    exact Go.ret ⟨.inl rfl, _, _, DOk.nil, (resOk1 Try.results39 rfl), ⟨_, rfl, h⟩⟩
  · intro j3 hj3 h
    rcases bor (decide (p1 ≤ p0)) with hc1 | hc1
    · have h := h.1 hc1
      refine GoOps.q (v := .int .i64 p0) (want_yes rfl rfl rfl hc1) rfl (by decide) (q_move rfl) ?_
      refine GoOps.q (v := .int .i64 p2) (want_yes rfl rfl rfl hc1) rfl (by decide) (q_move rfl) ?_
      refine GoOps.q (v := .bool (decide (p0 ≤ p2))) (want_yes rfl rfl rfl hc1) rfl (by decide) (q_leq rfl rfl) ?_
      refine GoOps.q (v := .bool (decide (p0 ≤ p2))) rfl rfl (by decide) (q_pickT (btT rfl hc1) rfl) ?_
      exact hj3 _ _ _ h rfl
    · have h := h.2 hc1
      refine no_dst (want_no rfl rfl rfl hc1) rfl (by decide) ?_
      refine no_dst (want_no rfl rfl rfl hc1) rfl (by decide) ?_
      refine no_dst (want_no rfl rfl rfl hc1) rfl (by decide) ?_
      refine GoOps.q (v := .bool false) rfl rfl (by decide) (q_pickF (btF rfl hc1) rfl) ?_
      exact hj3 _ _ _ h rfl

/-- keelson.keelsonref1.ConfigMay -/
def keelsonref1_ConfigMay (p0 : (Int × Int × Int)) (H : PH) (Q : Bool → PH → Prop) : Prop :=
  mNew H (row [.int .i64 p0.1, .int .i64 p0.2.1, .int .i64 p0.2.2] 25) fun a1 H2 =>
  mLd (.int .i64) H2 (a1.add 0) fun x4 =>
  keelsonref1_Within x4 1 64 H2 fun y7 H6 =>
  mJoin (fun (s9 : Bool) (H11 : PH) =>
  mJoin (fun (s14 : Bool) (H16 : PH) =>
  Q s14 H16)
  fun j15 =>
  mIf s9
  (mLd (.int .i64) H11 (a1.add 2) fun x18 =>
  keelsonref1_Within x18 24 64 H11 fun y21 H20 =>
  j15 y21 H20)
  (j15 false H11))
  fun j10 =>
  mIf y7
  (mLd (.int .i64) H6 (a1.add 1) fun x22 =>
  keelsonref1_Within x22 8 32 H6 fun y25 H24 =>
  j10 y25 H24)
  (j10 false H6)

set_option maxRecDepth 20000 in
set_option maxHeartbeats 1000000 in
theorem keelsonref1_ConfigMay_s (p0 : (Int × Int × Int)) (H : PH) (Q : Bool → PH → Prop) (h : keelsonref1_ConfigMay p0 H Q) :
    CallsH Try.prog 22 #[.agg ([.int .i64 p0.1, .int .i64 p0.2.1, .int .i64 p0.2.2] : List Value).toArray] H (fun v H' => ∃ (r0 : Bool), v = .bool r0 ∧ Q r0 H') := by
  unfold keelsonref1_ConfigMay at h
  refine callsH_of_go Try.func22 rfl Try.ntmps22 (Nat.le_of_ble_eq_true rfl) ?_
  refine Go.seq ?_
  refine Go.region rfl ?_
  refine op_dst rfl rfl (by decide) (do_newBox (cs := [.int .i64 p0.1, .int .i64 p0.2.1, .int .i64 p0.2.2]) rfl rfl fun a1 H2 hb3 => ?_) 
  have h := h a1 H2 hb3
  refine GoOps.q (v := .bool false) rfl rfl (by decide) (q_assign rfl) ?_
  refine GoOps.nil ?_
  refine Go.seq ?_
  refine Go.region rfl ?_
  refine GoOps.q (v := .pointer (some (a1.add 0))) rfl rfl (by decide) (q_fieldAddr foff25_0 rfl) ?_
  obtain ⟨x4, hx5, h⟩ := h
  refine GoOps.q (v := .int .i64 x4) rfl rfl (by decide) (q_load scalar3 rfl hx5) ?_
  refine call_dst rfl (by decide) body39 (keelsonref1_Within_s _ _ _ _ _ h) rfl ?_
  rintro _ H6 ⟨y7, rfl, h⟩
  refine GoOps.q (v := .bool y7) rfl rfl (by decide) (q_move rfl) ?_
  refine join_ops 4 (fun ρ (s9 : Bool) => ρ 1 = .pointer (some a1) ∧ ρ 10 = .bool s9) h ?_ ?_ <;> clear h
  · intro s9 H11 ρ h hE
    obtain ⟨e12_1, e12_10⟩ := hE
    refine GoOps.q (v := .bool s9) rfl rfl (by decide) (q_move e12_10) ?_
    refine join_ops 4 (fun ρ (s14 : Bool) => ρ 15 = .bool s14) h ?_ ?_ <;> clear h
    · intro s14 H16 ρ h hE
      have e17_15 := hE
      refine GoOps.q (v := .bool s14) rfl rfl (by decide) (q_assign e17_15) ?_
      refine GoOps.nil ?_
      exact Go.ret ⟨.inl rfl, _, _, DOk.nil, (resOk1 Try.results22 rfl), ⟨_, rfl, h⟩⟩
    · intro j15 hj15 h
      rcases bor s9 with hc13 | hc13
      · have h := h.1 hc13
        refine GoOps.q (v := .pointer (some (a1.add 2))) (want_yes rfl rfl rfl hc13) rfl (by decide) (q_fieldAddr foff25_2 e12_1) ?_
        obtain ⟨x18, hx19, h⟩ := h
        refine GoOps.q (v := .int .i64 x18) (want_yes rfl rfl rfl hc13) rfl (by decide) (q_load scalar3 rfl hx19) ?_
        refine call_dst (want_yes rfl rfl rfl hc13) (by decide) body39 (keelsonref1_Within_s _ _ _ _ _ h) rfl ?_
        rintro _ H20 ⟨y21, rfl, h⟩
        refine GoOps.q (v := .bool y21) rfl rfl (by decide) (q_pickT (btT rfl hc13) rfl) ?_
        exact hj15 _ _ _ h rfl
      · have h := h.2 hc13
        refine no_dst (want_no rfl rfl rfl hc13) rfl (by decide) ?_
        refine no_dst (want_no rfl rfl rfl hc13) rfl (by decide) ?_
        refine no_dst (want_no rfl rfl rfl hc13) rfl (by decide) ?_
        refine GoOps.q (v := .bool false) rfl rfl (by decide) (q_pickF (btF rfl hc13) rfl) ?_
        exact hj15 _ _ _ h rfl
  · intro j10 hj10 h
    rcases bor y7 with hc8 | hc8
    · have h := h.1 hc8
      refine GoOps.q (v := .pointer (some (a1.add 1))) (want_yes rfl rfl rfl hc8) rfl (by decide) (q_fieldAddr foff25_1 rfl) ?_
      obtain ⟨x22, hx23, h⟩ := h
      refine GoOps.q (v := .int .i64 x22) (want_yes rfl rfl rfl hc8) rfl (by decide) (q_load scalar3 rfl hx23) ?_
      refine call_dst (want_yes rfl rfl rfl hc8) (by decide) body39 (keelsonref1_Within_s _ _ _ _ _ h) rfl ?_
      rintro _ H24 ⟨y25, rfl, h⟩
      refine GoOps.q (v := .bool y25) rfl rfl (by decide) (q_pickT (btT rfl hc8) rfl) ?_
      exact hj10 _ _ _ h ⟨rfl, rfl⟩
    · have h := h.2 hc8
      refine no_dst (want_no rfl rfl rfl hc8) rfl (by decide) ?_
      refine no_dst (want_no rfl rfl rfl hc8) rfl (by decide) ?_
      refine no_dst (want_no rfl rfl rfl hc8) rfl (by decide) ?_
      refine GoOps.q (v := .bool false) rfl rfl (by decide) (q_pickF (btF rfl hc8) rfl) ?_
      exact hj10 _ _ _ h ⟨rfl, rfl⟩


end Go.Proofs.Ytdadhppapenjkaa

import Derived.Test.YtmgmjcjpmfdboaaFnp1
set_option linter.unusedVariables false
set_option linter.unusedSimpArgs false
namespace Go.Proofs.Ytmgmjcjpmfdboaa
open Go Go.Kx Go.Proofs
/-- keelson.keelsonlaw12.UsageTakes -/
def keelsonlaw12_UsageTakes (p0 : (Int × Int × Int)) (p1 : Sl) (p2 : Int) (H : PH) (Q : Bool → PH → Prop) : Prop :=
  mNew H (row [.int .i64 p0.1, .int .i64 p0.2.1, .int .i64 p0.2.2] 22) fun a1 H2 =>
  mIf (decide (40 < (p1.len : Int)))
  (keelsonlaw12_awake H2 fun y6 H5 =>
  Q y6 H5)
  (mLdR (fun (x : (Int × Int × Int)) => [.int .i64 x.1, .int .i64 x.2.1, .int .i64 x.2.2]) H2 a1 3 fun x7 =>
  keelsonalike_Config (x7.1, x7.2.1, x7.2.2) false H2 fun y10 H9 =>
  mNew H9 (row [.int .i64 0, .int .i64 0, .int .i64 0] 26) fun a11 H12 =>
  mSt H12 a11 ([.int .i64 y10.1, .int .i64 y10.2.1, .int .i64 y10.2.2]) fun H14 =>
  mLdR (fun (x : (Int × Int × Int)) => [.int .i64 x.1, .int .i64 x.2.1, .int .i64 x.2.2]) H14 a11 3 fun x16 =>
  geom_New (x16.1, x16.2.1, x16.2.2) H14 fun y19 y20 H18 =>
  usage_New y19 Sl.nil H18 fun y22 H21 =>
  mJoin (fun (s24 : Bool) (H26 : PH) =>
  mIf s24
  (Q false H26)
  (mLd (.int .i64) H26 (a11.add 1) fun x29 =>
  mMk H26 4 1 [.bool false] x29 x29 fun r31 H32 =>
  mLoop (fun (s35 : Int) (H38 : PH) (again36 : Int → PH → Prop) =>
  mIf (decide (s35 < (p1.len : Int)))
  (mIdx p1 1 s35 fun a40 =>
  mLd (.int .i64) H38 a40 fun x42 =>
  mLd (.int .i64) H38 (a11.add 1) fun x44 =>
  keelsonalike_Round x42 x44 H38 fun y47 H46 =>
  mIdx r31 1 y47 fun a48 =>
  mLd .bool H46 a48 fun x50 =>
  usage_Table_Grab y22 y47 H46 fun y53 H52 =>
  mSame H52 a48 (.bool x50) <|
  mIf (y53 == x50)
  (Q false H52)
  (mIdx r31 1 y47 fun a56 =>
  mSt H52 a56 ([.bool true]) fun H58 =>
  again36 (IntKind.wrap .i64 (s35 + 1)) H58))
  (mLoop (fun (s60 : Int × Int) (H63 : PH) (again61 : (Int × Int) → PH → Prop) =>
  mLd (.int .i64) H63 (a11.add 1) fun x64 =>
  mIf (decide (s60.2 < x64))
  (mJoin (fun (s67 : Int) (H69 : PH) =>
  again61 (s67, IntKind.wrap .i64 (s60.2 + 1)) H69)
  fun j68 =>
  mIdx r31 1 s60.2 fun a71 =>
  mLd .bool H63 a71 fun x73 =>
  mIf (!x73)
  (j68 (IntKind.wrap .i64 (s60.1 + 1)) H63)
  (j68 s60.1 H63))
  (mLoop (fun (s76 : Int × Int × Int) (H79 : PH) (again77 : (Int × Int × Int) → PH → Prop) =>
  mLd (.int .i64) H79 (a11.add 1) fun x80 =>
  mIf (decide (s76.2.2 < (IntKind.wrap .i64 (x80 + 2))))
  (mJoin (fun (s83 : Int × Int) (H85 : PH) =>
  again77 (s83.1, s83.2, IntKind.wrap .i64 (s76.2.2 + 1)) H85)
  fun j84 =>
  mLd (.int .i64) H79 (a11.add 1) fun x87 =>
  keelsonalike_Round p2 x87 H79 fun y90 H89 =>
  usage_Table_Take y22 (decide (y90 ≤ s76.2.2)) H89 fun y92 y93 H91 =>
  mJoin (fun (s95 : Bool) (H97 : PH) =>
  mIf (y93 != s95)
  (Q false H97)
  (mIf (!y93)
  (j84 (s76.1, s76.2.1) H97)
  (mJoin (fun (s102 : Bool) (H104 : PH) =>
  mJoin (fun (s107 : Bool) (H109 : PH) =>
  mJoin (fun (s112 : Bool) (H114 : PH) =>
  mJoin (fun (s117 : Bool) (H119 : PH) =>
  mIf s117
  (Q false H119)
  (mLoop (fun (s122 : Int) (H125 : PH) (again123 : Int → PH → Prop) =>
  mIf (decide (s122 < y92))
  (mIdx r31 1 s122 fun a127 =>
  mLd .bool H125 a127 fun x129 =>
  mIf (!x129)
  (Q false H125)
  (again123 (IntKind.wrap .i64 (s122 + 1)) H125))
  (mIdx r31 1 y92 fun a132 =>
  mSt H125 a132 ([.bool true]) fun H134 =>
  j84 (IntKind.wrap .i64 (s76.1 - 1), y92) H134))
  (IntKind.wrap .i64 (s76.2.1 + 1)) H119))
  fun j118 =>
  mIf s112
  (j118 true H114)
  (usage_Table_State y22 y92 H114 fun y137 H136 =>
  j118 (y137 != 1) H136))
  fun j113 =>
  mIf s107
  (j113 true H109)
  (mIdx r31 1 y92 fun a138 =>
  mLd .bool H109 a138 fun x140 =>
  j113 x140 H109))
  fun j108 =>
  mIf s102
  (j108 true H104)
  (mLd (.int .i64) H104 (a11.add 1) fun x142 =>
  j108 (decide (x142 ≤ y92)) H104))
  fun j103 =>
  mIf (decide (y92 ≤ s76.2.1))
  (j103 true H97)
  (j103 (decide (y92 < 0)) H97))))
  fun j96 =>
  mIf (decide (2 < s76.1))
  (j96 true H91)
  (mJoin (fun (s145 : Bool) (H147 : PH) =>
  j96 s145 H147)
  fun j146 =>
  mIf (decide (y90 ≤ s76.2.2))
  (j146 (decide (0 < s76.1)) H91)
  (j146 false H91)))
  (usage_Table_Free y22 H79 fun y150 H149 =>
  mJoin (fun (s152 : Bool) (H154 : PH) =>
  Q s152 H154)
  fun j153 =>
  mIf (y150 == s76.1)
  (keelsonlaw12_awake H149 fun y157 H156 =>
  j153 y157 H156)
  (j153 false H149)))
  (s60.1, (-1), 0) H63))
  (0, 0) H38))
  0 H32))
  fun j25 =>
  mIf (y20 != 0)
  (j25 true H21)
  (j25 (Option.isNone y22) H21))

set_option maxRecDepth 20000 in
set_option maxHeartbeats 1000000 in
theorem keelsonlaw12_UsageTakes_s (p0 : (Int × Int × Int)) (p1 : Sl) (p2 : Int) (H : PH) (Q : Bool → PH → Prop) (h : keelsonlaw12_UsageTakes p0 p1 p2 H Q) :
    CallsH Try.prog 3 #[.agg ([.int .i64 p0.1, .int .i64 p0.2.1, .int .i64 p0.2.2] : List Value).toArray, Sl.v p1, .int .i64 p2] H (fun v H' => ∃ (r0 : Bool), v = .bool r0 ∧ Q r0 H') := by
  unfold keelsonlaw12_UsageTakes at h
  refine callsH_of_go Try.func3 rfl Try.ntmps3 (Nat.le_of_ble_eq_true rfl) ?_
  refine Go.seq ?_
  refine Go.region rfl ?_
  refine op_dst rfl rfl (by decide) (do_newBox (cs := [.int .i64 p0.1, .int .i64 p0.2.1, .int .i64 p0.2.2]) rfl rfl fun a1 H2 hb3 => ?_) 
  have h := h a1 H2 hb3
  refine GoOps.q (v := .bool false) rfl rfl (by decide) (q_assign rfl) ?_
  refine GoOps.nil ?_
  refine Go.seq ?_
  refine Go.seq ?_
  refine Go.region rfl ?_
  refine GoOps.q (v := Sl.v p1) rfl rfl (by decide) (q_move rfl) ?_
  refine GoOps.q (v := .int .i64 (p1.len : Int)) rfl rfl (by decide) (q_len Try.underlying23 rfl (ls1 rfl)) ?_
  refine GoOps.q (v := .bool (decide (40 < (p1.len : Int)))) rfl rfl (by decide) (q_gtr rfl rfl) ?_
  refine GoOps.nil ?_
  rcases bor (decide (40 < (p1.len : Int))) with hc4 | hc4
  · have h := h.1 hc4
    refine Go.condT (btT rfl hc4) ?_
    refine Go.seq ?_
    refine Go.region rfl ?_
    refine call_dst rfl (by decide) body7 (keelsonlaw12_awake_s _ _ h) rfl ?_
    rintro _ H5 ⟨y6, rfl, h⟩
    refine GoOps.q (v := .bool y6) rfl rfl (by decide) (q_assign rfl) ?_
    refine GoOps.nil ?_
    exact Go.ret ⟨.inl rfl, _, _, DOk.nil, (resOk1 Try.results3 rfl), ⟨_, rfl, h⟩⟩
  · have h := h.2 hc4
    refine Go.condF (btF rfl hc4) ?_
    refine Go.skip ?_
    refine Go.seq ?_
    refine Go.region rfl ?_
    obtain ⟨x7, hx8, h⟩ := h
    refine GoOps.q (v := .agg ([.int .i64 x7.1, .int .i64 x7.2.1, .int .i64 x7.2.2] : List Value).toArray) rfl rfl (by decide) (q_loadA aggr22 rfl hx8) ?_
    refine call_dst rfl (by decide) body8 (keelsonalike_Config_s _ _ _ _ h) rfl ?_
    rintro _ H9 ⟨y10, rfl, h⟩
    refine op_dst rfl rfl (by decide) (do_new zero26 rfl fun a11 H12 hb13 => ?_) 
    have h := h a11 H12 hb13
    obtain ⟨q15b, q15o, q15c, q15e, hq15a, hq15b, hq15l, hq15v, h⟩ := h
    refine op_none rfl rfl (do_store (vs := [.int .i64 y10.1, .int .i64 y10.2.1, .int .i64 y10.2.2]) size26 (pta rfl hq15a) rfl rfl rfl hq15v hq15b hq15l ?_) 
    refine GoOps.nil ?_
    refine Go.seq ?_
    refine Go.region rfl ?_
    obtain ⟨x16, hx17, h⟩ := h
    refine GoOps.q (v := .agg ([.int .i64 x16.1, .int .i64 x16.2.1, .int .i64 x16.2.2] : List Value).toArray) rfl rfl (by decide) (q_loadA aggr26 rfl hx17) ?_
    refine call_dst rfl (by decide) body9 (geom_New_s _ _ _ h) rfl ?_
    rintro _ H18 ⟨y19, y20, rfl, h⟩
    refine GoOps.q (v := .tuple #[.pointer y19, .int .i64 y20]) rfl rfl (by decide) (q_move rfl) ?_
    refine GoOps.q (v := .pointer y19) rfl rfl (by decide) (q_extract rfl rfl) ?_
    refine GoOps.q (v := .int .i64 y20) rfl rfl (by decide) (q_extract rfl rfl) ?_
    refine GoOps.q (v := .pointer y19) rfl rfl (by decide) (q_assign rfl) ?_
    refine GoOps.q (v := .int .i64 y20) rfl rfl (by decide) (q_assign rfl) ?_
    refine GoOps.nil ?_
    refine Go.seq ?_
    refine Go.region rfl ?_
    refine GoOps.q (v := .pointer y19) rfl rfl (by decide) (q_move rfl) ?_
    refine call_dst rfl (by decide) body10 (usage_New_s _ _ _ _ h) rfl ?_
    rintro _ H21 ⟨y22, rfl, h⟩
    refine GoOps.q (v := .pointer y22) rfl rfl (by decide) (q_assign rfl) ?_
    refine GoOps.nil ?_
    refine Go.seq ?_
    refine Go.seq ?_
    refine Go.region rfl ?_
    refine GoOps.q (v := .int .i64 y20) rfl rfl (by decide) (q_move rfl) ?_
    refine GoOps.q (v := .bool (y20 != 0)) rfl rfl (by decide) (q_neq rfl rfl) ?_
    refine GoOps.q (v := .bool (y20 != 0)) rfl rfl (by decide) (q_move rfl) ?_
    refine join_ops 3 (fun ρ (s24 : Bool) => ρ 1 = Sl.v p1 ∧ ρ 2 = .int .i64 p2 ∧ ρ 7 = .pointer (some a11) ∧ ρ 10 = .pointer y22 ∧ ρ 41 = .bool s24) h ?_ ?_ <;> clear h
    · intro s24 H26 ρ h hE
      obtain ⟨e27_1, e27_2, e27_7, e27_10, e27_41⟩ := hE
      refine GoOps.nil ?_
      rcases bor s24 with hc28 | hc28
      · have h := h.1 hc28
        refine Go.condT (btT e27_41 hc28) ?_
        refine Go.seq ?_
        refine Go.region rfl ?_
        refine GoOps.q (v := .bool false) rfl rfl (by decide) (q_assign rfl) ?_
        refine GoOps.nil ?_
        exact Go.ret ⟨.inl rfl, _, _, DOk.nil, (resOk1 Try.results3 rfl), ⟨_, rfl, h⟩⟩
      · have h := h.2 hc28
        refine Go.condF (btF e27_41 hc28) ?_
        refine Go.skip ?_
        refine Go.seq ?_
        refine Go.region rfl ?_
        refine GoOps.q (v := .pointer (some (a11.add 1))) rfl rfl (by decide) (q_fieldAddr foff26_1 e27_7) ?_
        obtain ⟨x29, hx30, h⟩ := h
        refine GoOps.q (v := .int .i64 x29) rfl rfl (by decide) (q_load scalar3 rfl hx30) ?_
        obtain ⟨hm34, h⟩ := h
        refine op_dst rfl rfl (by decide) (do_mk (zs := [.bool false]) slice34 bytes4 (by decide) zero4 rfl rfl (by decide) rfl rfl hm34 fun r31 H32 hb33 => ?_) 
        have h := h r31 H32 hb33
        refine GoOps.q (v := Sl.v r31) rfl rfl (by decide) (q_assign rfl) ?_
        refine GoOps.nil ?_
        refine Go.seq ?_
        refine Go.seq ?_
        refine Go.region rfl ?_
        refine GoOps.q (v := .int .i64 0) rfl rfl (by decide) (q_assign rfl) ?_
        refine GoOps.nil ?_
        refine Go.block ?_
        refine loop_go (fun ρ (s35 : Int) => ρ 1 = Sl.v p1 ∧ ρ 2 = .int .i64 p2 ∧ ρ 7 = .pointer (some a11) ∧ ρ 10 = .pointer y22 ∧ ρ 11 = Sl.v r31 ∧ ρ 12 = .int .i64 s35) h ⟨e27_1, e27_2, e27_7, e27_10, rfl, rfl⟩ ?_
        clear h
        intro ρ s35 H38 again36 hE h hagain36
        obtain ⟨e37_1, e37_2, e37_7, e37_10, e37_11, e37_12⟩ := hE
        refine Go.seq ?_
        refine Go.seq ?_
        refine Go.region rfl ?_
        refine GoOps.q (v := .int .i64 s35) rfl rfl (by decide) (q_move e37_12) ?_
        refine GoOps.q (v := Sl.v p1) rfl rfl (by decide) (q_move e37_1) ?_
        refine GoOps.q (v := .int .i64 (p1.len : Int)) rfl rfl (by decide) (q_len Try.underlying23 rfl (ls1 rfl)) ?_
        refine GoOps.q (v := .bool (decide (s35 < (p1.len : Int)))) rfl rfl (by decide) (q_lss rfl rfl) ?_
        refine GoOps.nil ?_
        rcases bor (decide (s35 < (p1.len : Int))) with hc39 | hc39
        · have h := h.1 hc39
          refine Go.condT (btT rfl hc39) ?_
          refine Go.skip ?_
          refine Go.seq ?_
          refine Go.block ?_
          refine Go.seq ?_
          refine Go.draw mixed ?_
          refine plan_pure (i := 0) (d := 51) (S2 := 1) (v := Sl.v p1) rfl (by decide +kernel) rfl (q_move e37_1) ?_
          refine plan_pure (i := 1) (d := 52) (S2 := 3) (v := .int .i64 s35) rfl (by decide +kernel) rfl (q_move e37_12) ?_
          obtain ⟨a40, ha41, h⟩ := h
          refine plan_pure (i := 2) (d := 53) (S2 := 7) (v := .pointer (some a40)) rfl (by decide +kernel) rfl (q_idx slice23 ha41 rfl rfl) ?_
          obtain ⟨x42, hx43, h⟩ := h
          refine plan_load (i := 3) (d := 54) (S2 := 15) (v := .int .i64 x42) rfl (by decide +kernel) rfl (q_load scalar3 rfl hx43) ?_
          refine plan_pure (i := 4) (d := 55) (S2 := 31) (v := .pointer (some (a11.add 1))) rfl (by decide +kernel) rfl (q_fieldAddr foff26_1 e37_7) ?_
          obtain ⟨x44, hx45, h⟩ := h
          refine plan_load (i := 5) (d := 56) (S2 := 63) (v := .int .i64 x44) rfl (by decide +kernel) rfl (q_load scalar3 rfl hx45) ?_
          refine plan_one (j := 6) (S2 := 127) (by decide +kernel) rfl (by decide) rfl ?_
          refine do_call2 body11 (keelsonalike_Round_s _ _ _ _ h) rfl ?_
          rintro _ H46 ⟨y47, rfl, h⟩
          refine ⟨_, (.inl ⟨⟨[6], by decide +kernel, rfl⟩, .inl ⟨⟨[6], by decide +kernel, rfl⟩, rfl⟩⟩), ?_⟩
          refine plan_pure (i := 7) (d := 13) (S2 := 255) (v := .int .i64 y47) rfl (by decide +kernel) rfl (q_assign rfl) ?_
          refine plan_done (by decide +kernel) ?_
          refine Go.seq ?_
          refine Go.seq ?_
          refine Go.draw mixed ?_
          refine plan_pure (i := 0) (d := 58) (S2 := 1) (v := .pointer y22) rfl (by decide +kernel) rfl (q_move e37_10) ?_
          refine plan_pure (i := 1) (d := 59) (S2 := 3) (v := .int .i64 y47) rfl (by decide +kernel) rfl (q_move rfl) ?_
          refine plan_pure (i := 3) (d := 61) (S2 := 11) (v := Sl.v r31) rfl (by decide +kernel) rfl (q_move e37_11) ?_
          refine plan_pure (i := 4) (d := 62) (S2 := 27) (v := .int .i64 y47) rfl (by decide +kernel) rfl (q_move rfl) ?_
          obtain ⟨a48, ha49, h⟩ := h
          refine plan_pure (i := 5) (d := 63) (S2 := 59) (v := .pointer (some a48)) rfl (by decide +kernel) rfl (q_idx slice34 ha49 rfl rfl) ?_
          obtain ⟨x50, hx51, h⟩ := h
          refine plan_load (i := 6) (d := 64) (S2 := 123) (v := .bool x50) rfl (by decide +kernel) rfl (q_load scalar4 rfl hx51) ?_
          refine plan_one (j := 2) (S2 := 127) (by decide +kernel) rfl (by decide) rfl ?_
          refine do_call2 body12 (usage_Table_Grab_s _ _ _ _ h) rfl ?_
          rintro _ H52 ⟨y53, rfl, h⟩
          obtain ⟨hr54, h⟩ := h
          refine ⟨_, (.inr ⟨⟨_, _, rfl, rfl, q_load scalar4 rfl hr54⟩, _, rfl, rfl⟩), ?_⟩
          refine plan_pure (i := 7) (d := 65) (S2 := 255) (v := .bool (y53 == x50)) rfl (by decide +kernel) rfl (q_eqlB Try.underlying4 rfl rfl) ?_
          refine plan_done (by decide +kernel) ?_
          rcases bor (y53 == x50) with hc55 | hc55
          · have h := h.1 hc55
            refine Go.condT (btT rfl hc55) ?_
            refine Go.seq ?_
            refine Go.region rfl ?_
            refine GoOps.q (v := .bool false) rfl rfl (by decide) (q_assign rfl) ?_
            refine GoOps.nil ?_
            exact Go.ret ⟨.inl rfl, _, _, DOk.nil, (resOk1 Try.results3 rfl), ⟨_, rfl, h⟩⟩
          · have h := h.2 hc55
            refine Go.condF (btF rfl hc55) ?_
            refine Go.skip ?_
            refine Go.region rfl ?_
            refine GoOps.q (v := Sl.v r31) rfl rfl (by decide) (q_move e37_11) ?_
            refine GoOps.q (v := .int .i64 y47) rfl rfl (by decide) (q_move rfl) ?_
            obtain ⟨a56, ha57, h⟩ := h
            refine GoOps.q (v := .pointer (some a56)) rfl rfl (by decide) (q_idx slice34 ha57 rfl rfl) ?_
            obtain ⟨q59b, q59o, q59c, q59e, hq59a, hq59b, hq59l, hq59v, h⟩ := h
            refine op_none rfl rfl (do_store (vs := [.bool true]) size4 (pta rfl hq59a) rfl rfl rfl hq59v hq59b hq59l ?_) 
            refine GoOps.nil ?_
            refine Go.inBlock ?_
            refine Go.region rfl ?_
            refine GoOps.q (v := .int .i64 s35) rfl rfl (by decide) (q_move e37_12) ?_
            refine GoOps.q (v := .int .i64 (IntKind.wrap .i64 (s35 + 1))) rfl rfl (by decide) (q_add rfl rfl) ?_
            refine GoOps.q (v := .int .i64 (IntKind.wrap .i64 (s35 + 1))) rfl rfl (by decide) (q_assign rfl) ?_
            refine GoOps.nil ?_
            exact hagain36 _ _ _ h ⟨e37_1, e37_2, e37_7, e37_10, e37_11, rfl⟩
        · have h := h.2 hc39
          refine Go.condF (btF rfl hc39) ?_
          refine Go.exit rfl ?_
          refine Go.seq ?_
          refine Go.region rfl ?_
          refine GoOps.q (v := .int .i64 0) rfl rfl (by decide) (q_assign rfl) ?_
          refine GoOps.nil ?_
          refine Go.seq ?_
          refine Go.seq ?_
          refine Go.region rfl ?_
          refine GoOps.q (v := .int .i64 0) rfl rfl (by decide) (q_assign rfl) ?_
          refine GoOps.nil ?_
          refine Go.block ?_
          refine loop_go (fun ρ (s60 : Int × Int) => ρ 2 = .int .i64 p2 ∧ ρ 7 = .pointer (some a11) ∧ ρ 10 = .pointer y22 ∧ ρ 11 = Sl.v r31 ∧ ρ 14 = .int .i64 s60.1 ∧ ρ 15 = .int .i64 s60.2) h ⟨e37_2, e37_7, e37_10, e37_11, rfl, rfl⟩ ?_
          clear h
          intro ρ s60 H63 again61 hE h hagain61
          obtain ⟨e62_2, e62_7, e62_10, e62_11, e62_14, e62_15⟩ := hE
          refine Go.seq ?_
          refine Go.seq ?_
          refine Go.region rfl ?_
          refine GoOps.q (v := .int .i64 s60.2) rfl rfl (by decide) (q_move e62_15) ?_
          refine GoOps.q (v := .pointer (some (a11.add 1))) rfl rfl (by decide) (q_fieldAddr foff26_1 e62_7) ?_
          obtain ⟨x64, hx65, h⟩ := h
          refine GoOps.q (v := .int .i64 x64) rfl rfl (by decide) (q_load scalar3 rfl hx65) ?_
          refine GoOps.q (v := .bool (decide (s60.2 < x64))) rfl rfl (by decide) (q_lss rfl rfl) ?_
          refine GoOps.nil ?_
          rcases bor (decide (s60.2 < x64)) with hc66 | hc66
          · have h := h.1 hc66
            refine Go.condT (btT rfl hc66) ?_
            refine Go.skip ?_
            refine Go.seq ?_
            refine join_go 1 (fun ρ (s67 : Int) => ρ 2 = .int .i64 p2 ∧ ρ 7 = .pointer (some a11) ∧ ρ 10 = .pointer y22 ∧ ρ 11 = Sl.v r31 ∧ ρ 14 = .int .i64 s67 ∧ ρ 15 = .int .i64 s60.2) h ?_ ?_ <;> clear h
            · intro s67 H69 ρ h hE
              obtain ⟨e70_2, e70_7, e70_10, e70_11, e70_14, e70_15⟩ := hE
              refine Go.region rfl ?_
              refine GoOps.q (v := .int .i64 s60.2) rfl rfl (by decide) (q_move e70_15) ?_
              refine GoOps.q (v := .int .i64 (IntKind.wrap .i64 (s60.2 + 1))) rfl rfl (by decide) (q_add rfl rfl) ?_
              refine GoOps.q (v := .int .i64 (IntKind.wrap .i64 (s60.2 + 1))) rfl rfl (by decide) (q_assign rfl) ?_
              refine GoOps.nil ?_
              exact hagain61 _ _ _ h ⟨e70_2, e70_7, e70_10, e70_11, e70_14, rfl⟩
            · intro j68 hj68 h
              refine Go.block ?_
              refine Go.seq ?_
              refine Go.region rfl ?_
              refine GoOps.q (v := Sl.v r31) rfl rfl (by decide) (q_move e62_11) ?_
              refine GoOps.q (v := .int .i64 s60.2) rfl rfl (by decide) (q_move e62_15) ?_
              obtain ⟨a71, ha72, h⟩ := h
              refine GoOps.q (v := .pointer (some a71)) rfl rfl (by decide) (q_idx slice34 ha72 rfl rfl) ?_
              obtain ⟨x73, hx74, h⟩ := h
              refine GoOps.q (v := .bool x73) rfl rfl (by decide) (q_load scalar4 rfl hx74) ?_
              refine GoOps.q (v := .bool (!x73)) rfl rfl (by decide) (q_not rfl) ?_
              refine GoOps.nil ?_
              rcases bor (!x73) with hc75 | hc75
              · have h := h.1 hc75
                refine Go.condT (btT rfl hc75) ?_
                refine Go.region rfl ?_
                refine GoOps.q (v := .int .i64 s60.1) rfl rfl (by decide) (q_move e62_14) ?_
                refine GoOps.q (v := .int .i64 (IntKind.wrap .i64 (s60.1 + 1))) rfl rfl (by decide) (q_add rfl rfl) ?_
                refine GoOps.q (v := .int .i64 (IntKind.wrap .i64 (s60.1 + 1))) rfl rfl (by decide) (q_assign rfl) ?_
                refine GoOps.nil ?_
                refine Go.inBlock ?_
                exact hj68 _ _ _ h ⟨e62_2, e62_7, e62_10, e62_11, rfl, e62_15⟩
              · have h := h.2 hc75
                refine Go.condF (btF rfl hc75) ?_
                refine Go.skip ?_
                refine Go.inBlock ?_
                exact hj68 _ _ _ h ⟨e62_2, e62_7, e62_10, e62_11, e62_14, e62_15⟩
          · have h := h.2 hc66
            refine Go.condF (btF rfl hc66) ?_
            refine Go.exit rfl ?_
            refine Go.seq ?_
            refine Go.region rfl ?_
            refine GoOps.q (v := .int .i64 (-1)) rfl rfl (by decide) (q_assign rfl) ?_
            refine GoOps.nil ?_
            refine Go.seq ?_
            refine Go.seq ?_
            refine Go.region rfl ?_
            refine GoOps.q (v := .int .i64 0) rfl rfl (by decide) (q_assign rfl) ?_
            refine GoOps.nil ?_
            refine Go.block ?_
            refine loop_go (fun ρ (s76 : Int × Int × Int) => ρ 2 = .int .i64 p2 ∧ ρ 7 = .pointer (some a11) ∧ ρ 10 = .pointer y22 ∧ ρ 11 = Sl.v r31 ∧ ρ 14 = .int .i64 s76.1 ∧ ρ 16 = .int .i64 s76.2.1 ∧ ρ 17 = .int .i64 s76.2.2) h ⟨e62_2, e62_7, e62_10, e62_11, e62_14, rfl, rfl⟩ ?_
            clear h
            intro ρ s76 H79 again77 hE h hagain77
            obtain ⟨e78_2, e78_7, e78_10, e78_11, e78_14, e78_16, e78_17⟩ := hE
            refine Go.seq ?_
            refine Go.seq ?_
            refine Go.region rfl ?_
            refine GoOps.q (v := .int .i64 s76.2.2) rfl rfl (by decide) (q_move e78_17) ?_
            refine GoOps.q (v := .pointer (some (a11.add 1))) rfl rfl (by decide) (q_fieldAddr foff26_1 e78_7) ?_
            obtain ⟨x80, hx81, h⟩ := h
            refine GoOps.q (v := .int .i64 x80) rfl rfl (by decide) (q_load scalar3 rfl hx81) ?_
            refine GoOps.q (v := .int .i64 (IntKind.wrap .i64 (x80 + 2))) rfl rfl (by decide) (q_add rfl rfl) ?_
            refine GoOps.q (v := .bool (decide (s76.2.2 < (IntKind.wrap .i64 (x80 + 2))))) rfl rfl (by decide) (q_lss rfl rfl) ?_
            refine GoOps.nil ?_
            rcases bor (decide (s76.2.2 < (IntKind.wrap .i64 (x80 + 2)))) with hc82 | hc82
            · have h := h.1 hc82
              refine Go.condT (btT rfl hc82) ?_
              refine Go.skip ?_
              refine Go.seq ?_
              refine join_go 1 (fun ρ (s83 : Int × Int) => ρ 2 = .int .i64 p2 ∧ ρ 7 = .pointer (some a11) ∧ ρ 10 = .pointer y22 ∧ ρ 11 = Sl.v r31 ∧ ρ 14 = .int .i64 s83.1 ∧ ρ 16 = .int .i64 s83.2 ∧ ρ 17 = .int .i64 s76.2.2) h ?_ ?_ <;> clear h
              · intro s83 H85 ρ h hE
                obtain ⟨e86_2, e86_7, e86_10, e86_11, e86_14, e86_16, e86_17⟩ := hE
                refine Go.region rfl ?_
                refine GoOps.q (v := .int .i64 s76.2.2) rfl rfl (by decide) (q_move e86_17) ?_
                refine GoOps.q (v := .int .i64 (IntKind.wrap .i64 (s76.2.2 + 1))) rfl rfl (by decide) (q_add rfl rfl) ?_
                refine GoOps.q (v := .int .i64 (IntKind.wrap .i64 (s76.2.2 + 1))) rfl rfl (by decide) (q_assign rfl) ?_
                refine GoOps.nil ?_
                exact hagain77 _ _ _ h ⟨e86_2, e86_7, e86_10, e86_11, e86_14, e86_16, rfl⟩
              · intro j84 hj84 h
                refine Go.block ?_
                refine Go.seq ?_
                refine Go.region rfl ?_
                refine GoOps.q (v := .int .i64 s76.2.2) rfl rfl (by decide) (q_move e78_17) ?_
                refine GoOps.q (v := .int .i64 p2) rfl rfl (by decide) (q_move e78_2) ?_
                refine GoOps.q (v := .pointer (some (a11.add 1))) rfl rfl (by decide) (q_fieldAddr foff26_1 e78_7) ?_
                obtain ⟨x87, hx88, h⟩ := h
                refine GoOps.q (v := .int .i64 x87) rfl rfl (by decide) (q_load scalar3 rfl hx88) ?_
                refine call_dst rfl (by decide) body11 (keelsonalike_Round_s _ _ _ _ h) rfl ?_
                rintro _ H89 ⟨y90, rfl, h⟩
                refine GoOps.q (v := .bool (decide (y90 ≤ s76.2.2))) rfl rfl (by decide) (q_geq rfl rfl) ?_
                refine GoOps.q (v := .bool (decide (y90 ≤ s76.2.2))) rfl rfl (by decide) (q_assign rfl) ?_
                refine GoOps.nil ?_
                refine Go.seq ?_
                refine Go.region rfl ?_
                refine GoOps.q (v := .pointer y22) rfl rfl (by decide) (q_move e78_10) ?_
                refine GoOps.q (v := .bool (decide (y90 ≤ s76.2.2))) rfl rfl (by decide) (q_move rfl) ?_
                refine call_dst rfl (by decide) body13 (usage_Table_Take_s _ _ _ _ h) rfl ?_
                rintro _ H91 ⟨y92, y93, rfl, h⟩
                refine GoOps.q (v := .tuple #[.int .i64 y92, .bool y93]) rfl rfl (by decide) (q_move rfl) ?_
                refine GoOps.q (v := .int .i64 y92) rfl rfl (by decide) (q_extract rfl rfl) ?_
                refine GoOps.q (v := .bool y93) rfl rfl (by decide) (q_extract rfl rfl) ?_
                refine GoOps.q (v := .int .i64 y92) rfl rfl (by decide) (q_assign rfl) ?_
                refine GoOps.q (v := .bool y93) rfl rfl (by decide) (q_assign rfl) ?_
                refine GoOps.nil ?_
                refine Go.seq ?_
                refine Go.region rfl ?_
                refine GoOps.q (v := .int .i64 s76.1) rfl rfl (by decide) (q_move e78_14) ?_
                refine GoOps.q (v := .bool (decide (2 < s76.1))) rfl rfl (by decide) (q_gtr rfl rfl) ?_
                refine GoOps.q (v := .bool (decide (2 < s76.1))) rfl rfl (by decide) (q_move rfl) ?_
                refine join_ops 6 (fun ρ (s95 : Bool) => ρ 2 = .int .i64 p2 ∧ ρ 7 = .pointer (some a11) ∧ ρ 10 = .pointer y22 ∧ ρ 11 = Sl.v r31 ∧ ρ 14 = .int .i64 s76.1 ∧ ρ 16 = .int .i64 s76.2.1 ∧ ρ 17 = .int .i64 s76.2.2 ∧ ρ 19 = .int .i64 y92 ∧ ρ 20 = .bool y93 ∧ ρ 109 = .bool s95) h ?_ ?_ <;> clear h
                · intro s95 H97 ρ h hE
                  obtain ⟨e98_2, e98_7, e98_10, e98_11, e98_14, e98_16, e98_17, e98_19, e98_20, e98_109⟩ := hE
                  refine GoOps.q (v := .bool s95) rfl rfl (by decide) (q_assign e98_109) ?_
                  refine GoOps.nil ?_
                  refine Go.seq ?_
                  refine Go.seq ?_
                  refine Go.region rfl ?_
                  refine GoOps.q (v := .bool y93) rfl rfl (by decide) (q_move e98_20) ?_
                  refine GoOps.q (v := .bool s95) rfl rfl (by decide) (q_move rfl) ?_
                  refine GoOps.q (v := .bool (y93 != s95)) rfl rfl (by decide) (q_neqB Try.underlying4 rfl rfl) ?_
                  refine GoOps.nil ?_
                  rcases bor (y93 != s95) with hc99 | hc99
                  · have h := h.1 hc99
                    refine Go.condT (btT rfl hc99) ?_
                    refine Go.seq ?_
                    refine Go.region rfl ?_
                    refine GoOps.q (v := .bool false) rfl rfl (by decide) (q_assign rfl) ?_
                    refine GoOps.nil ?_
                    exact Go.ret ⟨.inl rfl, _, _, DOk.nil, (resOk1 Try.results3 rfl), ⟨_, rfl, h⟩⟩
                  · have h := h.2 hc99
                    refine Go.condF (btF rfl hc99) ?_
                    refine Go.skip ?_
                    refine Go.seq ?_
                    refine Go.seq ?_
                    refine Go.region rfl ?_
                    refine GoOps.q (v := .bool y93) rfl rfl (by decide) (q_move e98_20) ?_
                    refine GoOps.q (v := .bool (!y93)) rfl rfl (by decide) (q_not rfl) ?_
                    refine GoOps.nil ?_
                    rcases bor (!y93) with hc100 | hc100
                    · have h := h.1 hc100
                      refine Go.condT (btT rfl hc100) ?_
                      refine Go.exit rfl ?_
                      exact hj84 _ _ _ h ⟨e98_2, e98_7, e98_10, e98_11, e98_14, e98_16, e98_17⟩
                    · have h := h.2 hc100
                      refine Go.condF (btF rfl hc100) ?_
                      refine Go.skip ?_
                      refine Go.seq ?_
                      refine Go.seq ?_
                      refine Go.region rfl ?_
                      refine GoOps.q (v := .int .i64 y92) rfl rfl (by decide) (q_move e98_19) ?_
                      refine GoOps.q (v := .int .i64 s76.2.1) rfl rfl (by decide) (q_move e98_16) ?_
                      refine GoOps.q (v := .bool (decide (y92 ≤ s76.2.1))) rfl rfl (by decide) (q_leq rfl rfl) ?_
                      refine GoOps.q (v := .bool (decide (y92 ≤ s76.2.1))) rfl rfl (by decide) (q_move rfl) ?_
                      refine join_ops 3 (fun ρ (s102 : Bool) => ρ 2 = .int .i64 p2 ∧ ρ 7 = .pointer (some a11) ∧ ρ 10 = .pointer y22 ∧ ρ 11 = Sl.v r31 ∧ ρ 14 = .int .i64 s76.1 ∧ ρ 16 = .int .i64 s76.2.1 ∧ ρ 17 = .int .i64 s76.2.2 ∧ ρ 19 = .int .i64 y92 ∧ ρ 121 = .bool s102) h ?_ ?_ <;> clear h
                      · intro s102 H104 ρ h hE
                        obtain ⟨e105_2, e105_7, e105_10, e105_11, e105_14, e105_16, e105_17, e105_19, e105_121⟩ := hE
                        refine GoOps.q (v := .bool s102) rfl rfl (by decide) (q_move e105_121) ?_
                        refine join_ops 5 (fun ρ (s107 : Bool) => ρ 2 = .int .i64 p2 ∧ ρ 7 = .pointer (some a11) ∧ ρ 10 = .pointer y22 ∧ ρ 11 = Sl.v r31 ∧ ρ 14 = .int .i64 s76.1 ∧ ρ 16 = .int .i64 s76.2.1 ∧ ρ 17 = .int .i64 s76.2.2 ∧ ρ 19 = .int .i64 y92 ∧ ρ 127 = .bool s107) h ?_ ?_ <;> clear h
                        · intro s107 H109 ρ h hE
                          obtain ⟨e110_2, e110_7, e110_10, e110_11, e110_14, e110_16, e110_17, e110_19, e110_127⟩ := hE
                          refine GoOps.q (v := .bool s107) rfl rfl (by decide) (q_move e110_127) ?_
                          refine join_ops 5 (fun ρ (s112 : Bool) => ρ 2 = .int .i64 p2 ∧ ρ 7 = .pointer (some a11) ∧ ρ 10 = .pointer y22 ∧ ρ 11 = Sl.v r31 ∧ ρ 14 = .int .i64 s76.1 ∧ ρ 16 = .int .i64 s76.2.1 ∧ ρ 17 = .int .i64 s76.2.2 ∧ ρ 19 = .int .i64 y92 ∧ ρ 133 = .bool s112) h ?_ ?_ <;> clear h
                          · intro s112 H114 ρ h hE
                            obtain ⟨e115_2, e115_7, e115_10, e115_11, e115_14, e115_16, e115_17, e115_19, e115_133⟩ := hE
                            refine GoOps.q (v := .bool s112) rfl rfl (by decide) (q_move e115_133) ?_
                            refine join_ops 5 (fun ρ (s117 : Bool) => ρ 2 = .int .i64 p2 ∧ ρ 7 = .pointer (some a11) ∧ ρ 10 = .pointer y22 ∧ ρ 11 = Sl.v r31 ∧ ρ 14 = .int .i64 s76.1 ∧ ρ 16 = .int .i64 s76.2.1 ∧ ρ 17 = .int .i64 s76.2.2 ∧ ρ 19 = .int .i64 y92 ∧ ρ 139 = .bool s117) h ?_ ?_ <;> clear h
                            · intro s117 H119 ρ h hE
                              obtain ⟨e120_2, e120_7, e120_10, e120_11, e120_14, e120_16, e120_17, e120_19, e120_139⟩ := hE
                              refine GoOps.nil ?_
                              rcases bor s117 with hc121 | hc121
                              · have h := h.1 hc121
                                refine Go.condT (btT e120_139 hc121) ?_
                                refine Go.seq ?_
                                refine Go.region rfl ?_
                                refine GoOps.q (v := .bool false) rfl rfl (by decide) (q_assign rfl) ?_
                                refine GoOps.nil ?_
                                exact Go.ret ⟨.inl rfl, _, _, DOk.nil, (resOk1 Try.results3 rfl), ⟨_, rfl, h⟩⟩
                              · have h := h.2 hc121
                                refine Go.condF (btF e120_139 hc121) ?_
                                refine Go.skip ?_
                                refine Go.seq ?_
                                refine Go.seq ?_
                                refine Go.region rfl ?_
                                refine GoOps.q (v := .int .i64 s76.2.1) rfl rfl (by decide) (q_move e120_16) ?_
                                refine GoOps.q (v := .int .i64 (IntKind.wrap .i64 (s76.2.1 + 1))) rfl rfl (by decide) (q_add rfl rfl) ?_
                                refine GoOps.q (v := .int .i64 (IntKind.wrap .i64 (s76.2.1 + 1))) rfl rfl (by decide) (q_assign rfl) ?_
                                refine GoOps.nil ?_
                                refine Go.block ?_
                                refine loop_go (fun ρ (s122 : Int) => ρ 2 = .int .i64 p2 ∧ ρ 7 = .pointer (some a11) ∧ ρ 10 = .pointer y22 ∧ ρ 11 = Sl.v r31 ∧ ρ 14 = .int .i64 s76.1 ∧ ρ 17 = .int .i64 s76.2.2 ∧ ρ 19 = .int .i64 y92 ∧ ρ 22 = .int .i64 s122) h ⟨e120_2, e120_7, e120_10, e120_11, e120_14, e120_17, e120_19, rfl⟩ ?_
                                clear h
                                intro ρ s122 H125 again123 hE h hagain123
                                obtain ⟨e124_2, e124_7, e124_10, e124_11, e124_14, e124_17, e124_19, e124_22⟩ := hE
                                refine Go.seq ?_
                                refine Go.seq ?_
                                refine Go.region rfl ?_
                                refine GoOps.q (v := .int .i64 s122) rfl rfl (by decide) (q_move e124_22) ?_
                                refine GoOps.q (v := .int .i64 y92) rfl rfl (by decide) (q_move e124_19) ?_
                                refine GoOps.q (v := .bool (decide (s122 < y92))) rfl rfl (by decide) (q_lss rfl rfl) ?_
                                refine GoOps.nil ?_
                                rcases bor (decide (s122 < y92)) with hc126 | hc126
                                · have h := h.1 hc126
                                  refine Go.condT (btT rfl hc126) ?_
                                  refine Go.skip ?_
                                  refine Go.seq ?_
                                  refine Go.block ?_
                                  refine Go.seq ?_
                                  refine Go.region rfl ?_
                                  refine GoOps.q (v := Sl.v r31) rfl rfl (by decide) (q_move e124_11) ?_
                                  refine GoOps.q (v := .int .i64 s122) rfl rfl (by decide) (q_move e124_22) ?_
                                  obtain ⟨a127, ha128, h⟩ := h
                                  refine GoOps.q (v := .pointer (some a127)) rfl rfl (by decide) (q_idx slice34 ha128 rfl rfl) ?_
                                  obtain ⟨x129, hx130, h⟩ := h
                                  refine GoOps.q (v := .bool x129) rfl rfl (by decide) (q_load scalar4 rfl hx130) ?_
                                  refine GoOps.q (v := .bool (!x129)) rfl rfl (by decide) (q_not rfl) ?_
                                  refine GoOps.nil ?_
                                  rcases bor (!x129) with hc131 | hc131
                                  · have h := h.1 hc131
                                    refine Go.condT (btT rfl hc131) ?_
                                    refine Go.seq ?_
                                    refine Go.region rfl ?_
                                    refine GoOps.q (v := .bool false) rfl rfl (by decide) (q_assign rfl) ?_
                                    refine GoOps.nil ?_
                                    exact Go.ret ⟨.inl rfl, _, _, DOk.nil, (resOk1 Try.results3 rfl), ⟨_, rfl, h⟩⟩
                                  · have h := h.2 hc131
                                    refine Go.condF (btF rfl hc131) ?_
                                    refine Go.skip ?_
                                    refine Go.inBlock ?_
                                    refine Go.region rfl ?_
                                    refine GoOps.q (v := .int .i64 s122) rfl rfl (by decide) (q_move e124_22) ?_
                                    refine GoOps.q (v := .int .i64 (IntKind.wrap .i64 (s122 + 1))) rfl rfl (by decide) (q_add rfl rfl) ?_
                                    refine GoOps.q (v := .int .i64 (IntKind.wrap .i64 (s122 + 1))) rfl rfl (by decide) (q_assign rfl) ?_
                                    refine GoOps.nil ?_
                                    exact hagain123 _ _ _ h ⟨e124_2, e124_7, e124_10, e124_11, e124_14, e124_17, e124_19, rfl⟩
                                · have h := h.2 hc126
                                  refine Go.condF (btF rfl hc126) ?_
                                  refine Go.exit rfl ?_
                                  refine Go.seq ?_
                                  refine Go.region rfl ?_
                                  refine GoOps.q (v := Sl.v r31) rfl rfl (by decide) (q_move e124_11) ?_
                                  refine GoOps.q (v := .int .i64 y92) rfl rfl (by decide) (q_move e124_19) ?_
                                  obtain ⟨a132, ha133, h⟩ := h
                                  refine GoOps.q (v := .pointer (some a132)) rfl rfl (by decide) (q_idx slice34 ha133 rfl rfl) ?_
                                  obtain ⟨q135b, q135o, q135c, q135e, hq135a, hq135b, hq135l, hq135v, h⟩ := h
                                  refine op_none rfl rfl (do_store (vs := [.bool true]) size4 (pta rfl hq135a) rfl rfl rfl hq135v hq135b hq135l ?_) 
                                  refine GoOps.nil ?_
                                  refine Go.seq ?_
                                  refine Go.region rfl ?_
                                  refine GoOps.q (v := .int .i64 y92) rfl rfl (by decide) (q_move e124_19) ?_
                                  refine GoOps.q (v := .int .i64 y92) rfl rfl (by decide) (q_assign rfl) ?_
                                  refine GoOps.nil ?_
                                  refine Go.region rfl ?_
                                  refine GoOps.q (v := .int .i64 s76.1) rfl rfl (by decide) (q_move e124_14) ?_
                                  refine GoOps.q (v := .int .i64 (IntKind.wrap .i64 (s76.1 - 1))) rfl rfl (by decide) (q_sub rfl rfl) ?_
                                  refine GoOps.q (v := .int .i64 (IntKind.wrap .i64 (s76.1 - 1))) rfl rfl (by decide) (q_assign rfl) ?_
                                  refine GoOps.nil ?_
                                  refine Go.inBlock ?_
                                  exact hj84 _ _ _ h ⟨e124_2, e124_7, e124_10, e124_11, rfl, rfl, e124_17⟩
                            · intro j118 hj118 h
                              rcases bor s112 with hc116 | hc116
                              · have h := h.1 hc116
                                refine no_dst (want_no rfl rfl rfl hc116) rfl (by decide) ?_
                                refine no_dst (want_no rfl rfl rfl hc116) rfl (by decide) ?_
                                refine no_dst (want_no rfl rfl rfl hc116) rfl (by decide) ?_
                                refine no_dst (want_no rfl rfl rfl hc116) rfl (by decide) ?_
                                refine GoOps.q (v := .bool true) rfl rfl (by decide) (q_pickT (btT rfl hc116) rfl) ?_
                                exact hj118 true _ _ h (by exact ⟨e115_2, e115_7, e115_10, e115_11, e115_14, e115_16, e115_17, e115_19, rfl⟩)
                              · have h := h.2 hc116
                                refine GoOps.q (v := .pointer y22) (want_yes rfl rfl rfl hc116) rfl (by decide) (q_move e115_10) ?_
                                refine GoOps.q (v := .int .i64 y92) (want_yes rfl rfl rfl hc116) rfl (by decide) (q_move e115_19) ?_
                                refine call_dst (want_yes rfl rfl rfl hc116) (by decide) body14 (usage_Table_State_s _ _ _ _ h) rfl ?_
                                rintro _ H136 ⟨y137, rfl, h⟩
                                refine GoOps.q (v := .bool (y137 != 1)) (want_yes rfl rfl rfl hc116) rfl (by decide) (q_neq rfl rfl) ?_
                                refine GoOps.q (v := .bool (y137 != 1)) rfl rfl (by decide) (q_pickF (btF rfl hc116) rfl) ?_
                                exact hj118 (y137 != 1) _ _ h (by exact ⟨e115_2, e115_7, e115_10, e115_11, e115_14, e115_16, e115_17, e115_19, rfl⟩)
                          · intro j113 hj113 h
                            rcases bor s107 with hc111 | hc111
                            · have h := h.1 hc111
                              refine no_dst (want_no rfl rfl rfl hc111) rfl (by decide) ?_
                              refine no_dst (want_no rfl rfl rfl hc111) rfl (by decide) ?_
                              refine no_dst (want_no rfl rfl rfl hc111) rfl (by decide) ?_
                              refine no_dst (want_no rfl rfl rfl hc111) rfl (by decide) ?_
                              refine GoOps.q (v := .bool true) rfl rfl (by decide) (q_pickT (btT rfl hc111) rfl) ?_
                              exact hj113 true _ _ h (by exact ⟨e110_2, e110_7, e110_10, e110_11, e110_14, e110_16, e110_17, e110_19, rfl⟩)
                            · have h := h.2 hc111
                              refine GoOps.q (v := Sl.v r31) (want_yes rfl rfl rfl hc111) rfl (by decide) (q_move e110_11) ?_
                              refine GoOps.q (v := .int .i64 y92) (want_yes rfl rfl rfl hc111) rfl (by decide) (q_move e110_19) ?_
                              obtain ⟨a138, ha139, h⟩ := h
                              refine GoOps.q (v := .pointer (some a138)) (want_yes rfl rfl rfl hc111) rfl (by decide) (q_idx slice34 ha139 rfl rfl) ?_
                              obtain ⟨x140, hx141, h⟩ := h
                              refine GoOps.q (v := .bool x140) (want_yes rfl rfl rfl hc111) rfl (by decide) (q_load scalar4 rfl hx141) ?_
                              refine GoOps.q (v := .bool x140) rfl rfl (by decide) (q_pickF (btF rfl hc111) rfl) ?_
                              exact hj113 x140 _ _ h (by exact ⟨e110_2, e110_7, e110_10, e110_11, e110_14, e110_16, e110_17, e110_19, rfl⟩)
                        · intro j108 hj108 h
                          rcases bor s102 with hc106 | hc106
                          · have h := h.1 hc106
                            refine no_dst (want_no rfl rfl rfl hc106) rfl (by decide) ?_
                            refine no_dst (want_no rfl rfl rfl hc106) rfl (by decide) ?_
                            refine no_dst (want_no rfl rfl rfl hc106) rfl (by decide) ?_
                            refine no_dst (want_no rfl rfl rfl hc106) rfl (by decide) ?_
                            refine GoOps.q (v := .bool true) rfl rfl (by decide) (q_pickT (btT rfl hc106) rfl) ?_
                            exact hj108 true _ _ h (by exact ⟨e105_2, e105_7, e105_10, e105_11, e105_14, e105_16, e105_17, e105_19, rfl⟩)
                          · have h := h.2 hc106
                            refine GoOps.q (v := .int .i64 y92) (want_yes rfl rfl rfl hc106) rfl (by decide) (q_move e105_19) ?_
                            refine GoOps.q (v := .pointer (some (a11.add 1))) (want_yes rfl rfl rfl hc106) rfl (by decide) (q_fieldAddr foff26_1 e105_7) ?_
                            obtain ⟨x142, hx143, h⟩ := h
                            refine GoOps.q (v := .int .i64 x142) (want_yes rfl rfl rfl hc106) rfl (by decide) (q_load scalar3 rfl hx143) ?_
                            refine GoOps.q (v := .bool (decide (x142 ≤ y92))) (want_yes rfl rfl rfl hc106) rfl (by decide) (q_geq rfl rfl) ?_
                            refine GoOps.q (v := .bool (decide (x142 ≤ y92))) rfl rfl (by decide) (q_pickF (btF rfl hc106) rfl) ?_
                            exact hj108 (decide (x142 ≤ y92)) _ _ h (by exact ⟨e105_2, e105_7, e105_10, e105_11, e105_14, e105_16, e105_17, e105_19, rfl⟩)
                      · intro j103 hj103 h
                        rcases bor (decide (y92 ≤ s76.2.1)) with hc101 | hc101
                        · have h := h.1 hc101
                          refine no_dst (want_no rfl rfl rfl hc101) rfl (by decide) ?_
                          refine no_dst (want_no rfl rfl rfl hc101) rfl (by decide) ?_
                          refine GoOps.q (v := .bool true) rfl rfl (by decide) (q_pickT (btT rfl hc101) rfl) ?_
                          exact hj103 true _ _ h (by exact ⟨e98_2, e98_7, e98_10, e98_11, e98_14, e98_16, e98_17, e98_19, rfl⟩)
                        · have h := h.2 hc101
                          refine GoOps.q (v := .int .i64 y92) (want_yes rfl rfl rfl hc101) rfl (by decide) (q_move e98_19) ?_
                          refine GoOps.q (v := .bool (decide (y92 < 0))) (want_yes rfl rfl rfl hc101) rfl (by decide) (q_lss rfl rfl) ?_
                          refine GoOps.q (v := .bool (decide (y92 < 0))) rfl rfl (by decide) (q_pickF (btF rfl hc101) rfl) ?_
                          exact hj103 (decide (y92 < 0)) _ _ h (by exact ⟨e98_2, e98_7, e98_10, e98_11, e98_14, e98_16, e98_17, e98_19, rfl⟩)
                · intro j96 hj96 h
                  rcases bor (decide (2 < s76.1)) with hc94 | hc94
                  · have h := h.1 hc94
                    refine no_dst (want_no rfl rfl rfl hc94) rfl (by decide) ?_
                    refine no_dst (want_no rfl rfl rfl hc94) rfl (by decide) ?_
                    refine no_dst (want_undef rfl rfl rfl) rfl (by decide) ?_
                    refine no_dst (want_undef rfl rfl rfl) rfl (by decide) ?_
                    refine no_dst (want_no rfl rfl rfl hc94) rfl (by decide) ?_
                    refine GoOps.q (v := .bool true) rfl rfl (by decide) (q_pickT (btT rfl hc94) rfl) ?_
                    exact hj96 true _ _ h (by exact ⟨e78_2, e78_7, e78_10, e78_11, e78_14, e78_16, e78_17, rfl, rfl, rfl⟩)
                  · have h := h.2 hc94
                    refine GoOps.q (v := .bool (decide (y90 ≤ s76.2.2))) (want_yes rfl rfl rfl hc94) rfl (by decide) (q_move rfl) ?_
                    refine GoOps.q (v := .bool (decide (y90 ≤ s76.2.2))) (want_yes rfl rfl rfl hc94) rfl (by decide) (q_move rfl) ?_
                    refine join_ops 3 (fun ρ (s145 : Bool) => ρ 2 = .int .i64 p2 ∧ ρ 7 = .pointer (some a11) ∧ ρ 10 = .pointer y22 ∧ ρ 11 = Sl.v r31 ∧ ρ 14 = .int .i64 s76.1 ∧ ρ 16 = .int .i64 s76.2.1 ∧ ρ 17 = .int .i64 s76.2.2 ∧ ρ 19 = .int .i64 y92 ∧ ρ 20 = .bool y93 ∧ ρ 103 = .bool (decide (2 < s76.1)) ∧ ρ 108 = .bool s145) h ?_ ?_ <;> clear h
                    · intro s145 H147 ρ h hE
                      obtain ⟨e148_2, e148_7, e148_10, e148_11, e148_14, e148_16, e148_17, e148_19, e148_20, e148_103, e148_108⟩ := hE
                      refine GoOps.q (v := .bool s145) rfl rfl (by decide) (q_pickF (btF e148_103 hc94) e148_108) ?_
                      exact hj96 s145 _ _ h (by exact ⟨e148_2, e148_7, e148_10, e148_11, e148_14, e148_16, e148_17, e148_19, e148_20, rfl⟩)
                    · intro j146 hj146 h
                      rcases bor (decide (y90 ≤ s76.2.2)) with hc144 | hc144
                      · have h := h.1 hc144
                        refine GoOps.q (v := .int .i64 s76.1) (want_yes rfl rfl rfl hc144) rfl (by decide) (q_move e78_14) ?_
                        refine GoOps.q (v := .bool (decide (0 < s76.1))) (want_yes rfl rfl rfl hc144) rfl (by decide) (q_gtr rfl rfl) ?_
                        refine GoOps.q (v := .bool (decide (0 < s76.1))) (want_yes rfl rfl rfl hc94) rfl (by decide) (q_pickT (btT rfl hc144) rfl) ?_
                        exact hj146 (decide (0 < s76.1)) _ _ h (by exact ⟨e78_2, e78_7, e78_10, e78_11, e78_14, e78_16, e78_17, rfl, rfl, rfl, rfl⟩)
                      · have h := h.2 hc144
                        refine no_dst (want_no rfl rfl rfl hc144) rfl (by decide) ?_
                        refine no_dst (want_no rfl rfl rfl hc144) rfl (by decide) ?_
                        refine GoOps.q (v := .bool false) (want_yes rfl rfl rfl hc94) rfl (by decide) (q_pickF (btF rfl hc144) rfl) ?_
                        exact hj146 false _ _ h (by exact ⟨e78_2, e78_7, e78_10, e78_11, e78_14, e78_16, e78_17, rfl, rfl, rfl, rfl⟩)
            · have h := h.2 hc82
              refine Go.condF (btF rfl hc82) ?_
              refine Go.exit rfl ?_
              refine Go.seq ?_
              refine Go.region rfl ?_
              refine GoOps.q (v := .pointer y22) rfl rfl (by decide) (q_move e78_10) ?_
              refine call_dst rfl (by decide) body15 (usage_Table_Free_s _ _ _ h) rfl ?_
              rintro _ H149 ⟨y150, rfl, h⟩
              refine GoOps.q (v := .int .i64 s76.1) rfl rfl (by decide) (q_move e78_14) ?_
              refine GoOps.q (v := .bool (y150 == s76.1)) rfl rfl (by decide) (q_eql rfl rfl) ?_
              refine GoOps.q (v := .bool (y150 == s76.1)) rfl rfl (by decide) (q_move rfl) ?_
              refine join_ops 2 (fun ρ (s152 : Bool) => ρ 164 = .bool s152) h ?_ ?_ <;> clear h
              · intro s152 H154 ρ h hE
                have e155_164 := hE
                refine GoOps.q (v := .bool s152) rfl rfl (by decide) (q_assign e155_164) ?_
                refine GoOps.nil ?_
                exact Go.ret ⟨.inl rfl, _, _, DOk.nil, (resOk1 Try.results3 rfl), ⟨_, rfl, h⟩⟩
              · intro j153 hj153 h
                rcases bor (y150 == s76.1) with hc151 | hc151
                · have h := h.1 hc151
                  refine call_dst (want_yes rfl rfl rfl hc151) (by decide) body7 (keelsonlaw12_awake_s _ _ h) rfl ?_
                  rintro _ H156 ⟨y157, rfl, h⟩
                  refine GoOps.q (v := .bool y157) rfl rfl (by decide) (q_pickT (btT rfl hc151) rfl) ?_
                  exact hj153 y157 _ _ h (by exact rfl)
                · have h := h.2 hc151
                  refine no_dst (want_no rfl rfl rfl hc151) rfl (by decide) ?_
                  refine GoOps.q (v := .bool false) rfl rfl (by decide) (q_pickF (btF rfl hc151) rfl) ?_
                  exact hj153 false _ _ h (by exact rfl)
    · intro j25 hj25 h
      rcases bor (y20 != 0) with hc23 | hc23
      · have h := h.1 hc23
        refine no_dst (want_no rfl rfl rfl hc23) rfl (by decide) ?_
        refine no_dst (want_no rfl rfl rfl hc23) rfl (by decide) ?_
        refine GoOps.q (v := .bool true) rfl rfl (by decide) (q_pickT (btT rfl hc23) rfl) ?_
        exact hj25 true _ _ h (by exact ⟨rfl, rfl, rfl, rfl, rfl⟩)
      · have h := h.2 hc23
        refine GoOps.q (v := .pointer y22) (want_yes rfl rfl rfl hc23) rfl (by decide) (q_move rfl) ?_
        refine GoOps.q (v := .bool (Option.isNone y22)) (want_yes rfl rfl rfl hc23) rfl (by decide) (q_eqlPn Try.underlying32 rfl rfl) ?_
        refine GoOps.q (v := .bool (Option.isNone y22)) rfl rfl (by decide) (q_pickF (btF rfl hc23) rfl) ?_
        exact hj25 (Option.isNone y22) _ _ h (by exact ⟨rfl, rfl, rfl, rfl, rfl⟩)

/-- (*keelson.usage.Table).Live -/
def usage_Table_Live (p0 : Option Addr) (p1 : Int) (H : PH) (Q : Int → PH → Prop) : Prop :=
  usage_Table_has p0 p1 H fun y2 H1 =>
  mIf (!y2)
  (Q 0 H1)
  (mNil p0 fun a4 =>
  mLd Sl.v H1 (a4.add 2) fun x6 =>
  mIdx x6 1 p1 fun a8 =>
  mLd (.int .i64) H1 a8 fun x10 =>
  Q x10 H1)

set_option maxRecDepth 20000 in
set_option maxHeartbeats 1000000 in
theorem usage_Table_Live_s (p0 : Option Addr) (p1 : Int) (H : PH) (Q : Int → PH → Prop) (h : usage_Table_Live p0 p1 H Q) :
    CallsH Try.prog 20 #[.pointer p0, .int .i64 p1] H (fun v H' => ∃ (r0 : Int), v = .int .i64 r0 ∧ Q r0 H') := by
  unfold usage_Table_Live at h
  refine callsH_of_go Try.func20 rfl Try.ntmps20 (Nat.le_of_ble_eq_true rfl) ?_
  refine Go.seq ?_
  refine Go.region rfl ?_
  refine GoOps.q (v := .int .i64 0) rfl rfl (by decide) (q_assign rfl) ?_
  refine GoOps.nil ?_
  refine Go.seq ?_
  refine Go.seq ?_
  refine Go.region rfl ?_
  refine GoOps.q (v := .pointer p0) rfl rfl (by decide) (q_move rfl) ?_
  refine GoOps.q (v := .int .i64 p1) rfl rfl (by decide) (q_move rfl) ?_
  refine call_dst rfl (by decide) body39 (usage_Table_has_s _ _ _ _ h) rfl ?_
  rintro _ H1 ⟨y2, rfl, h⟩
  refine GoOps.q (v := .bool (!y2)) rfl rfl (by decide) (q_not rfl) ?_
  refine GoOps.nil ?_
  rcases bor (!y2) with hc3 | hc3
  · have h := h.1 hc3
    refine Go.condT (btT rfl hc3) ?_
    refine Go.seq ?_
    refine Go.region rfl ?_
    refine GoOps.q (v := .int .i64 0) rfl rfl (by decide) (q_assign rfl) ?_
    refine GoOps.nil ?_
    exact Go.ret ⟨.inl rfl, _, _, DOk.nil, (resOk1 Try.results20 rfl), ⟨_, rfl, h⟩⟩
  · have h := h.2 hc3
    refine Go.condF (btF rfl hc3) ?_
    refine Go.skip ?_
    refine Go.seq ?_
    refine Go.region rfl ?_
    refine GoOps.q (v := .pointer p0) rfl rfl (by decide) (q_move rfl) ?_
    obtain ⟨a4, ha5, h⟩ := h
    refine GoOps.q (v := .pointer (some a4)) rfl rfl (by decide) (q_nilCheck (ptn rfl ha5)) ?_
    refine GoOps.q (v := .pointer (some (a4.add 2))) rfl rfl (by decide) (q_fieldAddr foff71_2 rfl) ?_
    obtain ⟨x6, hx7, h⟩ := h
    refine GoOps.q (v := Sl.v x6) rfl rfl (by decide) (q_load scalar23 rfl hx7) ?_
    refine GoOps.q (v := .int .i64 p1) rfl rfl (by decide) (q_move rfl) ?_
    obtain ⟨a8, ha9, h⟩ := h
    refine GoOps.q (v := .pointer (some a8)) rfl rfl (by decide) (q_idx slice23 ha9 rfl rfl) ?_
    obtain ⟨x10, hx11, h⟩ := h
    refine GoOps.q (v := .int .i64 x10) rfl rfl (by decide) (q_load scalar3 rfl hx11) ?_
    refine GoOps.q (v := .int .i64 x10) rfl rfl (by decide) (q_assign rfl) ?_
    refine GoOps.nil ?_
    exact Go.ret ⟨.inl rfl, _, _, DOk.nil, (resOk1 Try.results20 rfl), ⟨_, rfl, h⟩⟩

/-- keelson.keelsonlaw12.UsageLives -/
def keelsonlaw12_UsageLives (p0 : Sl) (p1 : Int) (H : PH) (Q : Bool → PH → Prop) : Prop :=
  keelsonlaw12_eight H fun y2 y3 y4 H1 =>
  mNew H1 (row [.int .i64 0, .int .i64 0, .int .i64 0] 26) fun a5 H6 =>
  mSt H6 a5 ([.int .i64 y3.1, .int .i64 y3.2.1, .int .i64 y3.2.2]) fun H8 =>
  usage_New y2 Sl.nil H8 fun y11 H10 =>
  mJoin (fun (s13 : Bool) (H15 : PH) =>
  mJoin (fun (s18 : Bool) (H20 : PH) =>
  mIf s18
  (mJoin (fun (s24 : Bool) (H26 : PH) =>
  mJoin (fun (s29 : Bool) (H31 : PH) =>
  Q s29 H31)
  fun j30 =>
  mIf s24
  (keelsonlaw12_awake H26 fun y34 H33 =>
  j30 y34 H33)
  (j30 false H26))
  fun j25 =>
  mIf y4
  (j25 (!(Option.isNone y11)) H20)
  (j25 false H20))
  (mLoop (fun (s35 : Int) (H38 : PH) (again36 : Int → PH → Prop) =>
  mIf (decide (s35 < 8))
  (usage_Table_Grab y11 s35 H38 fun y41 H40 =>
  usage_Table_Seal y11 s35 H40 fun H42 =>
  again36 (IntKind.wrap .i64 (s35 + 1)) H42)
  (mNew H38 (row [.int .i64 0, .int .i64 0, .int .i64 0, .int .i64 0, .int .i64 0, .int .i64 0, .int .i64 0, .int .i64 0] 45) fun a43 H44 =>
  mLoop (fun (s46 : Int) (H49 : PH) (again47 : Int → PH → Prop) =>
  mIf (decide (s46 < (p0.len : Int)))
  (mIdx p0 1 s46 fun a51 =>
  mLd (.int .i64) H49 a51 fun x53 =>
  keelsonalike_Round x53 192 H49 fun y56 H55 =>
  mGe s46 <|
  mJoin (fun (s58 : Int) (H60 : PH) =>
  geom_Geom_Seg y2 0 H60 fun y63 H62 =>
  usage_Table_Add y11 (IntKind.wrap .i64 (y63 + y56)) s58 H62 fun y65 H64 =>
  mIf (!y65)
  (Q false H64)
  (mIdxA 8 a43 1 (IntKind.wrap .i64 (Int.tdiv y56 24)) fun a67 =>
  mLd (.int .i64) H64 a67 fun x69 =>
  mIdxA 8 a43 1 (IntKind.wrap .i64 (Int.tdiv y56 24)) fun a71 =>
  mSt H64 a71 ([.int .i64 (if (IntKind.wrap .i64 (x69 + s58)) < 0 then 0 else (IntKind.wrap .i64 (x69 + s58)))]) fun H73 =>
  again47 (IntKind.wrap .i64 (s46 + 1)) H73))
  fun j59 =>
  mIf ((iand .i64 (ishr .i64 p1 s46) 1) == 1)
  (j59 (-1) H55)
  (j59 1 H55))
  (mLoop (fun (s76 : Sl × Int) (H79 : PH) (again77 : (Sl × Int) → PH → Prop) =>
  mIf (decide (s76.2 < 8))
  (mJoin (fun (s81 : Sl) (H83 : PH) =>
  again77 (s81, IntKind.wrap .i64 (s76.2 + 1)) H83)
  fun j82 =>
  mIdxA 8 a43 1 s76.2 fun a85 =>
  mLd (.int .i64) H79 a85 fun x87 =>
  usage_Table_Live y11 s76.2 H79 fun y90 H89 =>
  mSame H89 a85 (.int .i64 x87) <|
  mJoin (fun (s93 : Bool) (H95 : PH) =>
  mIf s93
  (Q false H95)
  (mIdxA 8 a43 1 s76.2 fun a98 =>
  mLd (.int .i64) H95 a98 fun x100 =>
  mIf (x100 == 0)
  (mNewS H95 (row [.int .i64 s76.2] 3) 1 fun r103 H104 =>
  mApp H104 3 1 8 [.int .i64 0] s76.1 r103 fun r106 H107 =>
  j82 r106 H107)
  (j82 s76.1 H95)))
  fun j94 =>
  mIf (y90 != x87)
  (j94 true H89)
  (usage_Table_State y11 s76.2 H89 fun y109 H108 =>
  j94 (y109 != 2) H108))
  (usage_Table_Release y11 H79 fun y111 H110 =>
  keelsonalike_Ints y111 s76.1 H110 fun y113 H112 =>
  mJoin (fun (s115 : Bool) (H117 : PH) =>
  mJoin (fun (s120 : Bool) (H122 : PH) =>
  mJoin (fun (s125 : Bool) (H127 : PH) =>
  mJoin (fun (s130 : Bool) (H132 : PH) =>
  mJoin (fun (s135 : Bool) (H137 : PH) =>
  Q s135 H137)
  fun j136 =>
  mIf s130
  (keelsonlaw12_awake H132 fun y140 H139 =>
  j136 y140 H139)
  (j136 false H132))
  fun j131 =>
  mIf s125
  (geom_Geom_Sectors y2 H127 fun y142 H141 =>
  usage_Table_Add y11 y142 1 H141 fun y144 H143 =>
  j131 (!y144) H143)
  (j131 false H127))
  fun j126 =>
  mIf s120
  (geom_Geom_Seg y2 0 H122 fun y146 H145 =>
  usage_Table_Add y11 (IntKind.wrap .i64 (y146 - 1)) 1 H145 fun y148 H147 =>
  j126 (!y148) H147)
  (j126 false H122))
  fun j121 =>
  mIf s115
  (usage_Table_Release y11 H117 fun y150 H149 =>
  j121 ((y150.len : Int) == 0) H149)
  (j121 false H117))
  fun j116 =>
  mIf y113
  (usage_Table_Free y11 H112 fun y152 H151 =>
  j116 (y152 == (s76.1.len : Int)) H151)
  (j116 false H112)))
  (Sl.nil, 0) H49))
  0 H44))
  0 H20))
  fun j19 =>
  mIf s13
  (j19 true H15)
  (j19 (decide (30 < (p0.len : Int))) H15))
  fun j14 =>
  mIf (!y4)
  (j14 true H10)
  (j14 (Option.isNone y11) H10)

set_option maxRecDepth 20000 in
set_option maxHeartbeats 1000000 in
theorem keelsonlaw12_UsageLives_s (p0 : Sl) (p1 : Int) (H : PH) (Q : Bool → PH → Prop) (h : keelsonlaw12_UsageLives p0 p1 H Q) :
    CallsH Try.prog 4 #[Sl.v p0, .int .i64 p1] H (fun v H' => ∃ (r0 : Bool), v = .bool r0 ∧ Q r0 H') := by
  unfold keelsonlaw12_UsageLives at h
  refine callsH_of_go Try.func4 rfl Try.ntmps4 (Nat.le_of_ble_eq_true rfl) ?_
  refine Go.seq ?_
  refine Go.region rfl ?_
  refine GoOps.q (v := .bool false) rfl rfl (by decide) (q_assign rfl) ?_
  refine GoOps.nil ?_
  refine Go.seq ?_
  refine Go.region rfl ?_
  refine call_dst rfl (by decide) body16 (keelsonlaw12_eight_s _ _ h) rfl ?_
  rintro _ H1 ⟨y2, y3, y4, rfl, h⟩
  refine GoOps.q (v := .tuple #[.pointer y2, .agg ([.int .i64 y3.1, .int .i64 y3.2.1, .int .i64 y3.2.2] : List Value).toArray, .bool y4]) rfl rfl (by decide) (q_move rfl) ?_
  refine GoOps.q (v := .pointer y2) rfl rfl (by decide) (q_extract rfl rfl) ?_
  refine GoOps.q (v := .agg ([.int .i64 y3.1, .int .i64 y3.2.1, .int .i64 y3.2.2] : List Value).toArray) rfl rfl (by decide) (q_extract rfl rfl) ?_
  refine GoOps.q (v := .bool y4) rfl rfl (by decide) (q_extract rfl rfl) ?_
  refine op_dst rfl rfl (by decide) (do_new zero26 rfl fun a5 H6 hb7 => ?_) 
  have h := h a5 H6 hb7
  refine GoOps.q (v := .pointer y2) rfl rfl (by decide) (q_assign rfl) ?_
  obtain ⟨q9b, q9o, q9c, q9e, hq9a, hq9b, hq9l, hq9v, h⟩ := h
  refine op_none rfl rfl (do_store (vs := [.int .i64 y3.1, .int .i64 y3.2.1, .int .i64 y3.2.2]) size26 (pta rfl hq9a) rfl rfl rfl hq9v hq9b hq9l ?_) 
  refine GoOps.q (v := .bool y4) rfl rfl (by decide) (q_assign rfl) ?_
  refine GoOps.nil ?_
  refine Go.seq ?_
  refine Go.region rfl ?_
  refine GoOps.q (v := .pointer y2) rfl rfl (by decide) (q_move rfl) ?_
  refine call_dst rfl (by decide) body10 (usage_New_s _ _ _ _ h) rfl ?_
  rintro _ H10 ⟨y11, rfl, h⟩
  refine GoOps.q (v := .pointer y11) rfl rfl (by decide) (q_assign rfl) ?_
  refine GoOps.nil ?_
  refine Go.seq ?_
  refine Go.seq ?_
  refine Go.region rfl ?_
  refine GoOps.q (v := .bool y4) rfl rfl (by decide) (q_move rfl) ?_
  refine GoOps.q (v := .bool (!y4)) rfl rfl (by decide) (q_not rfl) ?_
  refine GoOps.q (v := .bool (!y4)) rfl rfl (by decide) (q_move rfl) ?_
  refine join_ops 3 (fun ρ (s13 : Bool) => ρ 0 = Sl.v p0 ∧ ρ 1 = .int .i64 p1 ∧ ρ 5 = .pointer y2 ∧ ρ 7 = .bool y4 ∧ ρ 8 = .pointer y11 ∧ ρ 29 = .bool s13) h ?_ ?_ <;> clear h
  · intro s13 H15 ρ h hE
    obtain ⟨e16_0, e16_1, e16_5, e16_7, e16_8, e16_29⟩ := hE
    refine GoOps.q (v := .bool s13) rfl rfl (by decide) (q_move e16_29) ?_
    refine join_ops 4 (fun ρ (s18 : Bool) => ρ 0 = Sl.v p0 ∧ ρ 1 = .int .i64 p1 ∧ ρ 5 = .pointer y2 ∧ ρ 7 = .bool y4 ∧ ρ 8 = .pointer y11 ∧ ρ 34 = .bool s18) h ?_ ?_ <;> clear h
    · intro s18 H20 ρ h hE
      obtain ⟨e21_0, e21_1, e21_5, e21_7, e21_8, e21_34⟩ := hE
      refine GoOps.nil ?_
      rcases bor s18 with hc22 | hc22
      · have h := h.1 hc22
        refine Go.condT (btT e21_34 hc22) ?_
        refine Go.seq ?_
        refine Go.region rfl ?_
        refine GoOps.q (v := .bool y4) rfl rfl (by decide) (q_move e21_7) ?_
        refine GoOps.q (v := .bool y4) rfl rfl (by decide) (q_move rfl) ?_
        refine join_ops 3 (fun ρ (s24 : Bool) => ρ 39 = .bool s24) h ?_ ?_ <;> clear h
        · intro s24 H26 ρ h hE
          have e27_39 := hE
          refine GoOps.q (v := .bool s24) rfl rfl (by decide) (q_move e27_39) ?_
          refine join_ops 2 (fun ρ (s29 : Bool) => ρ 42 = .bool s29) h ?_ ?_ <;> clear h
          · intro s29 H31 ρ h hE
            have e32_42 := hE
            refine GoOps.q (v := .bool s29) rfl rfl (by decide) (q_assign e32_42) ?_
            refine GoOps.nil ?_
            exact Go.ret ⟨.inl rfl, _, _, DOk.nil, (resOk1 Try.results4 rfl), ⟨_, rfl, h⟩⟩
          · intro j30 hj30 h
            rcases bor s24 with hc28 | hc28
            · have h := h.1 hc28
              refine call_dst (want_yes rfl rfl rfl hc28) (by decide) body7 (keelsonlaw12_awake_s _ _ h) rfl ?_
              rintro _ H33 ⟨y34, rfl, h⟩
              refine GoOps.q (v := .bool y34) rfl rfl (by decide) (q_pickT (btT rfl hc28) rfl) ?_
              exact hj30 y34 _ _ h (by exact rfl)
            · have h := h.2 hc28
              refine no_dst (want_no rfl rfl rfl hc28) rfl (by decide) ?_
              refine GoOps.q (v := .bool false) rfl rfl (by decide) (q_pickF (btF rfl hc28) rfl) ?_
              exact hj30 false _ _ h (by exact rfl)
        · intro j25 hj25 h
          rcases bor y4 with hc23 | hc23
          · have h := h.1 hc23
            refine GoOps.q (v := .pointer y11) (want_yes rfl rfl rfl hc23) rfl (by decide) (q_move e21_8) ?_
            refine GoOps.q (v := .bool (!(Option.isNone y11))) (want_yes rfl rfl rfl hc23) rfl (by decide) (q_neqPn Try.underlying32 rfl rfl) ?_
            refine GoOps.q (v := .bool (!(Option.isNone y11))) rfl rfl (by decide) (q_pickT (btT rfl hc23) rfl) ?_
            exact hj25 (!(Option.isNone y11)) _ _ h (by exact rfl)
          · have h := h.2 hc23
            refine no_dst (want_no rfl rfl rfl hc23) rfl (by decide) ?_
            refine no_dst (want_no rfl rfl rfl hc23) rfl (by decide) ?_
            refine GoOps.q (v := .bool false) rfl rfl (by decide) (q_pickF (btF rfl hc23) rfl) ?_
            exact hj25 false _ _ h (by exact rfl)
      · have h := h.2 hc22
        refine Go.condF (btF e21_34 hc22) ?_
        refine Go.skip ?_
        refine Go.seq ?_
        refine Go.seq ?_
        refine Go.region rfl ?_
        refine GoOps.q (v := .int .i64 0) rfl rfl (by decide) (q_assign rfl) ?_
        refine GoOps.nil ?_
        refine Go.block ?_
        refine loop_go (fun ρ (s35 : Int) => ρ 0 = Sl.v p0 ∧ ρ 1 = .int .i64 p1 ∧ ρ 5 = .pointer y2 ∧ ρ 8 = .pointer y11 ∧ ρ 9 = .int .i64 s35) h ⟨e21_0, e21_1, e21_5, e21_8, rfl⟩ ?_
        clear h
        intro ρ s35 H38 again36 hE h hagain36
        obtain ⟨e37_0, e37_1, e37_5, e37_8, e37_9⟩ := hE
        refine Go.seq ?_
        refine Go.seq ?_
        refine Go.region rfl ?_
        refine GoOps.q (v := .int .i64 s35) rfl rfl (by decide) (q_move e37_9) ?_
        refine GoOps.q (v := .bool (decide (s35 < 8))) rfl rfl (by decide) (q_lss rfl rfl) ?_
        refine GoOps.nil ?_
        rcases bor (decide (s35 < 8)) with hc39 | hc39
        · have h := h.1 hc39
          refine Go.condT (btT rfl hc39) ?_
          refine Go.skip ?_
          refine Go.seq ?_
          refine Go.block ?_
          refine Go.seq ?_
          refine Go.region rfl ?_
          refine GoOps.q (v := .pointer y11) rfl rfl (by decide) (q_move e37_8) ?_
          refine GoOps.q (v := .int .i64 s35) rfl rfl (by decide) (q_move e37_9) ?_
          refine call_dst rfl (by decide) body12 (usage_Table_Grab_s _ _ _ _ h) rfl ?_
          rintro _ H40 ⟨y41, rfl, h⟩
          refine GoOps.nil ?_
          refine Go.region rfl ?_
          refine GoOps.q (v := .pointer y11) rfl rfl (by decide) (q_move e37_8) ?_
          refine GoOps.q (v := .int .i64 s35) rfl rfl (by decide) (q_move e37_9) ?_
          refine call_dst rfl (by decide) body17 (usage_Table_Seal_s _ _ _ _ h) rfl ?_
          rintro _ H42 ⟨rfl, h⟩
          refine GoOps.nil ?_
          refine Go.inBlock ?_
          refine Go.region rfl ?_
          refine GoOps.q (v := .int .i64 s35) rfl rfl (by decide) (q_move e37_9) ?_
          refine GoOps.q (v := .int .i64 (IntKind.wrap .i64 (s35 + 1))) rfl rfl (by decide) (q_add rfl rfl) ?_
          refine GoOps.q (v := .int .i64 (IntKind.wrap .i64 (s35 + 1))) rfl rfl (by decide) (q_assign rfl) ?_
          refine GoOps.nil ?_
          exact hagain36 _ _ _ h ⟨e37_0, e37_1, e37_5, e37_8, rfl⟩
        · have h := h.2 hc39
          refine Go.condF (btF rfl hc39) ?_
          refine Go.exit rfl ?_
          refine Go.seq ?_
          refine Go.region rfl ?_
          refine op_dst rfl rfl (by decide) (do_new zero45 rfl fun a43 H44 hb45 => ?_) 
          have h := h a43 H44 hb45
          refine GoOps.nil ?_
          refine Go.seq ?_
          refine Go.seq ?_
          refine Go.region rfl ?_
          refine GoOps.q (v := .int .i64 0) rfl rfl (by decide) (q_assign rfl) ?_
          refine GoOps.nil ?_
          refine Go.block ?_
          refine loop_go (fun ρ (s46 : Int) => ρ 0 = Sl.v p0 ∧ ρ 1 = .int .i64 p1 ∧ ρ 5 = .pointer y2 ∧ ρ 8 = .pointer y11 ∧ ρ 10 = .pointer (some a43) ∧ ρ 11 = .int .i64 s46) h ⟨e37_0, e37_1, e37_5, e37_8, rfl, rfl⟩ ?_
          clear h
          intro ρ s46 H49 again47 hE h hagain47
          obtain ⟨e48_0, e48_1, e48_5, e48_8, e48_10, e48_11⟩ := hE
          refine Go.seq ?_
          refine Go.seq ?_
          refine Go.region rfl ?_
          refine GoOps.q (v := .int .i64 s46) rfl rfl (by decide) (q_move e48_11) ?_
          refine GoOps.q (v := Sl.v p0) rfl rfl (by decide) (q_move e48_0) ?_
          refine GoOps.q (v := .int .i64 (p0.len : Int)) rfl rfl (by decide) (q_len Try.underlying23 rfl (ls1 rfl)) ?_
          refine GoOps.q (v := .bool (decide (s46 < (p0.len : Int)))) rfl rfl (by decide) (q_lss rfl rfl) ?_
          refine GoOps.nil ?_
          rcases bor (decide (s46 < (p0.len : Int))) with hc50 | hc50
          · have h := h.1 hc50
            refine Go.condT (btT rfl hc50) ?_
            refine Go.skip ?_
            refine Go.seq ?_
            refine Go.block ?_
            refine Go.seq ?_
            refine Go.region rfl ?_
            refine GoOps.q (v := Sl.v p0) rfl rfl (by decide) (q_move e48_0) ?_
            refine GoOps.q (v := .int .i64 s46) rfl rfl (by decide) (q_move e48_11) ?_
            obtain ⟨a51, ha52, h⟩ := h
            refine GoOps.q (v := .pointer (some a51)) rfl rfl (by decide) (q_idx slice23 ha52 rfl rfl) ?_
            obtain ⟨x53, hx54, h⟩ := h
            refine GoOps.q (v := .int .i64 x53) rfl rfl (by decide) (q_load scalar3 rfl hx54) ?_
            refine call_dst rfl (by decide) body11 (keelsonalike_Round_s _ _ _ _ h) rfl ?_
            rintro _ H55 ⟨y56, rfl, h⟩
            refine GoOps.q (v := .int .i64 y56) rfl rfl (by decide) (q_assign rfl) ?_
            refine GoOps.nil ?_
            refine Go.seq ?_
            refine Go.region rfl ?_
            refine GoOps.q (v := .int .i64 1) rfl rfl (by decide) (q_assign rfl) ?_
            refine GoOps.nil ?_
            refine Go.seq ?_
            refine Go.seq ?_
            refine Go.region rfl ?_
            refine GoOps.q (v := .int .i64 p1) rfl rfl (by decide) (q_move e48_1) ?_
            refine GoOps.q (v := .int .i64 s46) rfl rfl (by decide) (q_move e48_11) ?_
            obtain ⟨hn57, h⟩ := h
            refine GoOps.q (v := .int .i64 (ishr .i64 p1 s46)) rfl rfl (by decide) (q_shr hn57 rfl rfl) ?_
            refine GoOps.q (v := .int .i64 (iand .i64 (ishr .i64 p1 s46) 1)) rfl rfl (by decide) (q_and rfl rfl) ?_
            refine GoOps.q (v := .bool ((iand .i64 (ishr .i64 p1 s46) 1) == 1)) rfl rfl (by decide) (q_eql rfl rfl) ?_
            refine GoOps.nil ?_
            refine join_go 1 (fun ρ (s58 : Int) => ρ 0 = Sl.v p0 ∧ ρ 1 = .int .i64 p1 ∧ ρ 5 = .pointer y2 ∧ ρ 8 = .pointer y11 ∧ ρ 10 = .pointer (some a43) ∧ ρ 11 = .int .i64 s46 ∧ ρ 12 = .int .i64 y56 ∧ ρ 13 = .int .i64 s58) h ?_ ?_ <;> clear h
            · intro s58 H60 ρ h hE
              obtain ⟨e61_0, e61_1, e61_5, e61_8, e61_10, e61_11, e61_12, e61_13⟩ := hE
              refine Go.seq ?_
              refine Go.seq ?_
              refine Go.region rfl ?_
              refine GoOps.q (v := .pointer y11) rfl rfl (by decide) (q_move e61_8) ?_
              refine GoOps.q (v := .pointer y2) rfl rfl (by decide) (q_move e61_5) ?_
              refine call_dst rfl (by decide) body19 (geom_Geom_Seg_s _ _ _ _ h) rfl ?_
              rintro _ H62 ⟨y63, rfl, h⟩
              refine GoOps.q (v := .int .i64 y56) rfl rfl (by decide) (q_move e61_12) ?_
              refine GoOps.q (v := .int .i64 (IntKind.wrap .i64 (y63 + y56))) rfl rfl (by decide) (q_add rfl rfl) ?_
              refine GoOps.q (v := .int .i64 s58) rfl rfl (by decide) (q_move e61_13) ?_
              refine call_dst rfl (by decide) body18 (usage_Table_Add_s _ _ _ _ _ h) rfl ?_
              rintro _ H64 ⟨y65, rfl, h⟩
              refine GoOps.q (v := .bool (!y65)) rfl rfl (by decide) (q_not rfl) ?_
              refine GoOps.nil ?_
              rcases bor (!y65) with hc66 | hc66
              · have h := h.1 hc66
                refine Go.condT (btT rfl hc66) ?_
                refine Go.seq ?_
                refine Go.region rfl ?_
                refine GoOps.q (v := .bool false) rfl rfl (by decide) (q_assign rfl) ?_
                refine GoOps.nil ?_
                exact Go.ret ⟨.inl rfl, _, _, DOk.nil, (resOk1 Try.results4 rfl), ⟨_, rfl, h⟩⟩
              · have h := h.2 hc66
                refine Go.condF (btF rfl hc66) ?_
                refine Go.skip ?_
                refine Go.region rfl ?_
                refine GoOps.q (v := .int .i64 y56) rfl rfl (by decide) (q_move e61_12) ?_
                refine GoOps.q (v := .int .i64 (IntKind.wrap .i64 (Int.tdiv y56 24))) rfl rfl (by decide) (q_quo (by decide) rfl rfl) ?_
                refine GoOps.q (v := .int .i64 y56) rfl rfl (by decide) (q_move e61_12) ?_
                refine GoOps.q (v := .int .i64 (IntKind.wrap .i64 (Int.tdiv y56 24))) rfl rfl (by decide) (q_quo (by decide) rfl rfl) ?_
                obtain ⟨a67, ha68, h⟩ := h
                refine GoOps.q (v := .pointer (some a67)) rfl rfl (by decide) (q_idxA array45 ha68 e61_10 rfl) ?_
                obtain ⟨x69, hx70, h⟩ := h
                refine GoOps.q (v := .int .i64 x69) rfl rfl (by decide) (q_load scalar3 rfl hx70) ?_
                refine GoOps.q (v := .int .i64 s58) rfl rfl (by decide) (q_move e61_13) ?_
                refine GoOps.q (v := .int .i64 (IntKind.wrap .i64 (x69 + s58))) rfl rfl (by decide) (q_add rfl rfl) ?_
                refine GoOps.q (v := .int .i64 (if (IntKind.wrap .i64 (x69 + s58)) < 0 then 0 else (IntKind.wrap .i64 (x69 + s58)))) rfl rfl (by decide) (q_max2 rfl) ?_
                obtain ⟨a71, ha72, h⟩ := h
                refine GoOps.q (v := .pointer (some a71)) rfl rfl (by decide) (q_idxA array45 ha72 e61_10 rfl) ?_
                obtain ⟨q74b, q74o, q74c, q74e, hq74a, hq74b, hq74l, hq74v, h⟩ := h
                refine op_none rfl rfl (do_store (vs := [.int .i64 (if (IntKind.wrap .i64 (x69 + s58)) < 0 then 0 else (IntKind.wrap .i64 (x69 + s58)))]) size3 (pta rfl hq74a) rfl rfl rfl hq74v hq74b hq74l ?_) 
                refine GoOps.nil ?_
                refine Go.inBlock ?_
                refine Go.region rfl ?_
                refine GoOps.q (v := .int .i64 s46) rfl rfl (by decide) (q_move e61_11) ?_
                refine GoOps.q (v := .int .i64 (IntKind.wrap .i64 (s46 + 1))) rfl rfl (by decide) (q_add rfl rfl) ?_
                refine GoOps.q (v := .int .i64 (IntKind.wrap .i64 (s46 + 1))) rfl rfl (by decide) (q_assign rfl) ?_
                refine GoOps.nil ?_
                exact hagain47 _ _ _ h ⟨e61_0, e61_1, e61_5, e61_8, e61_10, rfl⟩
            · intro j59 hj59 h
              rcases bor ((iand .i64 (ishr .i64 p1 s46) 1) == 1) with hc75 | hc75
              · have h := h.1 hc75
                refine Go.condT (btT rfl hc75) ?_
                refine Go.region rfl ?_
                refine GoOps.q (v := .int .i64 (-1)) rfl rfl (by decide) (q_assign rfl) ?_
                refine GoOps.nil ?_
                exact hj59 _ _ _ h ⟨e48_0, e48_1, e48_5, e48_8, e48_10, e48_11, rfl, rfl⟩
              · have h := h.2 hc75
                refine Go.condF (btF rfl hc75) ?_
                refine Go.skip ?_
                exact hj59 _ _ _ h ⟨e48_0, e48_1, e48_5, e48_8, e48_10, e48_11, rfl, rfl⟩
          · have h := h.2 hc50
            refine Go.condF (btF rfl hc50) ?_
            refine Go.exit rfl ?_
            refine Go.seq ?_
            refine Go.region rfl ?_
            refine GoOps.q (v := Sl.v Sl.nil) rfl rfl (by decide) (q_assign rfl) ?_
            refine GoOps.nil ?_
            refine Go.seq ?_
            refine Go.seq ?_
            refine Go.region rfl ?_
            refine GoOps.q (v := .int .i64 0) rfl rfl (by decide) (q_assign rfl) ?_
            refine GoOps.nil ?_
            refine Go.block ?_
            refine loop_go (fun ρ (s76 : Sl × Int) => ρ 5 = .pointer y2 ∧ ρ 8 = .pointer y11 ∧ ρ 10 = .pointer (some a43) ∧ ρ 14 = Sl.v s76.1 ∧ ρ 15 = .int .i64 s76.2) h ⟨e48_5, e48_8, e48_10, rfl, rfl⟩ ?_
            clear h
            intro ρ s76 H79 again77 hE h hagain77
            obtain ⟨e78_5, e78_8, e78_10, e78_14, e78_15⟩ := hE
            refine Go.seq ?_
            refine Go.seq ?_
            refine Go.region rfl ?_
            refine GoOps.q (v := .int .i64 s76.2) rfl rfl (by decide) (q_move e78_15) ?_
            refine GoOps.q (v := .bool (decide (s76.2 < 8))) rfl rfl (by decide) (q_lss rfl rfl) ?_
            refine GoOps.nil ?_
            rcases bor (decide (s76.2 < 8)) with hc80 | hc80
            · have h := h.1 hc80
              refine Go.condT (btT rfl hc80) ?_
              refine Go.skip ?_
              refine Go.seq ?_
              refine join_go 1 (fun ρ (s81 : Sl) => ρ 5 = .pointer y2 ∧ ρ 8 = .pointer y11 ∧ ρ 10 = .pointer (some a43) ∧ ρ 14 = Sl.v s81 ∧ ρ 15 = .int .i64 s76.2) h ?_ ?_ <;> clear h
              · intro s81 H83 ρ h hE
                obtain ⟨e84_5, e84_8, e84_10, e84_14, e84_15⟩ := hE
                refine Go.region rfl ?_
                refine GoOps.q (v := .int .i64 s76.2) rfl rfl (by decide) (q_move e84_15) ?_
                refine GoOps.q (v := .int .i64 (IntKind.wrap .i64 (s76.2 + 1))) rfl rfl (by decide) (q_add rfl rfl) ?_
                refine GoOps.q (v := .int .i64 (IntKind.wrap .i64 (s76.2 + 1))) rfl rfl (by decide) (q_assign rfl) ?_
                refine GoOps.nil ?_
                exact hagain77 _ _ _ h ⟨e84_5, e84_8, e84_10, e84_14, rfl⟩
              · intro j82 hj82 h
                refine Go.block ?_
                refine Go.seq ?_
                refine Go.seq ?_
                refine Go.draw mixed ?_
                refine plan_pure (i := 0) (d := 91) (S2 := 1) (v := .pointer y11) rfl (by decide +kernel) rfl (q_move e78_8) ?_
                refine plan_pure (i := 1) (d := 92) (S2 := 3) (v := .int .i64 s76.2) rfl (by decide +kernel) rfl (q_move e78_15) ?_
                refine plan_pure (i := 3) (d := 94) (S2 := 11) (v := .int .i64 s76.2) rfl (by decide +kernel) rfl (q_move e78_15) ?_
                obtain ⟨a85, ha86, h⟩ := h
                refine plan_pure (i := 4) (d := 95) (S2 := 27) (v := .pointer (some a85)) rfl (by decide +kernel) rfl (q_idxA array45 ha86 e78_10 rfl) ?_
                obtain ⟨x87, hx88, h⟩ := h
                refine plan_load (i := 5) (d := 96) (S2 := 59) (v := .int .i64 x87) rfl (by decide +kernel) rfl (q_load scalar3 rfl hx88) ?_
                refine plan_one (j := 2) (S2 := 63) (by decide +kernel) rfl (by decide) rfl ?_
                refine do_call2 body20 (usage_Table_Live_s _ _ _ _ h) rfl ?_
                rintro _ H89 ⟨y90, rfl, h⟩
                obtain ⟨hr91, h⟩ := h
                refine ⟨_, (.inr ⟨⟨_, _, rfl, rfl, q_load scalar3 rfl hr91⟩, _, rfl, rfl⟩), ?_⟩
                refine plan_pure (i := 6) (d := 97) (S2 := 127) (v := .bool (y90 != x87)) rfl (by decide +kernel) rfl (q_neq rfl rfl) ?_
                refine plan_pure (i := 7) (d := 98) (S2 := 255) (v := .bool (y90 != x87)) rfl (by decide +kernel) rfl (q_move rfl) ?_
                refine join_plan 8191 [5] (fun ρ (s93 : Bool) => ρ 5 = .pointer y2 ∧ ρ 8 = .pointer y11 ∧ ρ 10 = .pointer (some a43) ∧ ρ 14 = Sl.v s76.1 ∧ ρ 15 = .int .i64 s76.2 ∧ ρ 103 = .bool s93) h ?_ ?_ <;> clear h
                · intro s93 H95 ρ h hE
                  obtain ⟨e96_5, e96_8, e96_10, e96_14, e96_15, e96_103⟩ := hE
                  refine plan_done (by decide +kernel) ?_
                  rcases bor s93 with hc97 | hc97
                  · have h := h.1 hc97
                    refine Go.condT (btT e96_103 hc97) ?_
                    refine Go.seq ?_
                    refine Go.region rfl ?_
                    refine GoOps.q (v := .bool false) rfl rfl (by decide) (q_assign rfl) ?_
                    refine GoOps.nil ?_
                    exact Go.ret ⟨.inl rfl, _, _, DOk.nil, (resOk1 Try.results4 rfl), ⟨_, rfl, h⟩⟩
                  · have h := h.2 hc97
                    refine Go.condF (btF e96_103 hc97) ?_
                    refine Go.skip ?_
                    refine Go.seq ?_
                    refine Go.region rfl ?_
                    refine GoOps.q (v := .int .i64 s76.2) rfl rfl (by decide) (q_move e96_15) ?_
                    obtain ⟨a98, ha99, h⟩ := h
                    refine GoOps.q (v := .pointer (some a98)) rfl rfl (by decide) (q_idxA array45 ha99 e96_10 rfl) ?_
                    obtain ⟨x100, hx101, h⟩ := h
                    refine GoOps.q (v := .int .i64 x100) rfl rfl (by decide) (q_load scalar3 rfl hx101) ?_
                    refine GoOps.q (v := .bool (x100 == 0)) rfl rfl (by decide) (q_eql rfl rfl) ?_
                    refine GoOps.nil ?_
                    rcases bor (x100 == 0) with hc102 | hc102
                    · have h := h.1 hc102
                      refine Go.condT (btT rfl hc102) ?_
                      refine Go.region rfl ?_
                      refine GoOps.q (v := Sl.v s76.1) rfl rfl (by decide) (q_move e96_14) ?_
                      refine GoOps.q (v := .int .i64 s76.2) rfl rfl (by decide) (q_move e96_15) ?_
                      refine op_dst rfl rfl (by decide) (do_bs (ps := [(0, .int .i64 s76.2)]) (zs := [.int .i64 0]) (cs := [.int .i64 s76.2]) slice23 zero3 rfl rfl (by decide) (by decide) rfl rfl fun r103 H104 hb105 => ?_) 
                      have h := h r103 H104 hb105
                      refine op_dst rfl rfl (by decide) (do_append (zs := [.int .i64 0]) slice23 bytes3 (by decide) zero3 rfl rfl (by decide) rfl rfl Try.underlying23 rfl h fun r106 H107 h => ?_) 
                      refine GoOps.q (v := Sl.v r106) rfl rfl (by decide) (q_assign rfl) ?_
                      refine GoOps.nil ?_
                      refine Go.inBlock ?_
                      exact hj82 _ _ _ h ⟨e96_5, e96_8, e96_10, rfl, e96_15⟩
                    · have h := h.2 hc102
                      refine Go.condF (btF rfl hc102) ?_
                      refine Go.skip ?_
                      refine Go.inBlock ?_
                      exact hj82 _ _ _ h ⟨e96_5, e96_8, e96_10, e96_14, e96_15⟩
                · intro j94 hj94 h
                  rcases bor (y90 != x87) with hc92 | hc92
                  · have h := h.1 hc92
                    refine plan_skip (i := 8) (d := 99) (S2 := 511) rfl (by decide +kernel) (want_no rfl rfl rfl hc92) ?_
                    refine plan_skip (i := 9) (d := 100) (S2 := 1023) rfl (by decide +kernel) (want_no rfl rfl rfl hc92) ?_
                    refine plan_skip (i := 10) (d := 101) (S2 := 2047) rfl (by decide +kernel) (want_no rfl rfl rfl hc92) ?_
                    refine plan_skip (i := 11) (d := 102) (S2 := 4095) rfl (by decide +kernel) (want_no rfl rfl rfl hc92) ?_
                    refine plan_pure (i := 12) (d := 103) (S2 := 8191) (v := .bool true) rfl (by decide +kernel) rfl (q_pickT (btT rfl hc92) rfl) ?_
                    exact hj94 _ _ _ h ⟨e78_5, e78_8, e78_10, e78_14, e78_15, rfl⟩
                  · have h := h.2 hc92
                    refine plan_pure (i := 8) (d := 99) (S2 := 511) (v := .pointer y11) rfl (by decide +kernel) (want_yes rfl rfl rfl hc92) (q_move e78_8) ?_
                    refine plan_pure (i := 9) (d := 100) (S2 := 1023) (v := .int .i64 s76.2) rfl (by decide +kernel) (want_yes rfl rfl rfl hc92) (q_move e78_15) ?_
                    refine plan_one (j := 10) (S2 := 2047) (by decide +kernel) rfl (by decide) (want_yes rfl rfl rfl hc92) ?_
                    refine do_call2 body14 (usage_Table_State_s _ _ _ _ h) rfl ?_
                    rintro _ H108 ⟨y109, rfl, h⟩
                    refine ⟨_, (.inl ⟨⟨[6, 7, 10], by decide +kernel, rfl⟩, rfl⟩), ?_⟩
                    refine plan_pure (i := 11) (d := 102) (S2 := 4095) (v := .bool (y109 != 2)) rfl (by decide +kernel) (want_yes rfl rfl rfl hc92) (q_neq rfl rfl) ?_
                    refine plan_pure (i := 12) (d := 103) (S2 := 8191) (v := .bool (y109 != 2)) rfl (by decide +kernel) rfl (q_pickF (btF rfl hc92) rfl) ?_
                    refine plan_weaken (L2 := [5]) (by decide) ?_
                    exact hj94 _ _ _ h ⟨e78_5, e78_8, e78_10, e78_14, e78_15, rfl⟩
            · have h := h.2 hc80
              refine Go.condF (btF rfl hc80) ?_
              refine Go.exit rfl ?_
              refine Go.seq ?_
              refine Go.region rfl ?_
              refine GoOps.q (v := .pointer y11) rfl rfl (by decide) (q_move e78_8) ?_
              refine call_dst rfl (by decide) body21 (usage_Table_Release_s _ _ _ h) rfl ?_
              rintro _ H110 ⟨y111, rfl, h⟩
              refine GoOps.q (v := Sl.v y111) rfl rfl (by decide) (q_assign rfl) ?_
              refine GoOps.nil ?_
              refine Go.seq ?_
              refine Go.region rfl ?_
              refine GoOps.q (v := Sl.v y111) rfl rfl (by decide) (q_move rfl) ?_
              refine GoOps.q (v := Sl.v s76.1) rfl rfl (by decide) (q_move e78_14) ?_
              refine call_dst rfl (by decide) body22 (keelsonalike_Ints_s _ _ _ _ h) rfl ?_
              rintro _ H112 ⟨y113, rfl, h⟩
              refine GoOps.q (v := .bool y113) rfl rfl (by decide) (q_move rfl) ?_
              refine join_ops 6 (fun ρ (s115 : Bool) => ρ 5 = .pointer y2 ∧ ρ 8 = .pointer y11 ∧ ρ 123 = .bool s115) h ?_ ?_ <;> clear h
              · intro s115 H117 ρ h hE
                obtain ⟨e118_5, e118_8, e118_123⟩ := hE
                refine GoOps.q (v := .bool s115) rfl rfl (by decide) (q_move e118_123) ?_
                refine join_ops 5 (fun ρ (s120 : Bool) => ρ 5 = .pointer y2 ∧ ρ 8 = .pointer y11 ∧ ρ 129 = .bool s120) h ?_ ?_ <;> clear h
                · intro s120 H122 ρ h hE
                  obtain ⟨e123_5, e123_8, e123_129⟩ := hE
                  refine GoOps.q (v := .bool s120) rfl rfl (by decide) (q_move e123_129) ?_
                  refine join_ops 7 (fun ρ (s125 : Bool) => ρ 5 = .pointer y2 ∧ ρ 8 = .pointer y11 ∧ ρ 137 = .bool s125) h ?_ ?_ <;> clear h
                  · intro s125 H127 ρ h hE
                    obtain ⟨e128_5, e128_8, e128_137⟩ := hE
                    refine GoOps.q (v := .bool s125) rfl rfl (by decide) (q_move e128_137) ?_
                    refine join_ops 6 (fun ρ (s130 : Bool) => ρ 144 = .bool s130) h ?_ ?_ <;> clear h
                    · intro s130 H132 ρ h hE
                      have e133_144 := hE
                      refine GoOps.q (v := .bool s130) rfl rfl (by decide) (q_move e133_144) ?_
                      refine join_ops 2 (fun ρ (s135 : Bool) => ρ 147 = .bool s135) h ?_ ?_ <;> clear h
                      · intro s135 H137 ρ h hE
                        have e138_147 := hE
                        refine GoOps.q (v := .bool s135) rfl rfl (by decide) (q_assign e138_147) ?_
                        refine GoOps.nil ?_
                        exact Go.ret ⟨.inl rfl, _, _, DOk.nil, (resOk1 Try.results4 rfl), ⟨_, rfl, h⟩⟩
                      · intro j136 hj136 h
                        rcases bor s130 with hc134 | hc134
                        · have h := h.1 hc134
                          refine call_dst (want_yes rfl rfl rfl hc134) (by decide) body7 (keelsonlaw12_awake_s _ _ h) rfl ?_
                          rintro _ H139 ⟨y140, rfl, h⟩
                          refine GoOps.q (v := .bool y140) rfl rfl (by decide) (q_pickT (btT rfl hc134) rfl) ?_
                          exact hj136 y140 _ _ h (by exact rfl)
                        · have h := h.2 hc134
                          refine no_dst (want_no rfl rfl rfl hc134) rfl (by decide) ?_
                          refine GoOps.q (v := .bool false) rfl rfl (by decide) (q_pickF (btF rfl hc134) rfl) ?_
                          exact hj136 false _ _ h (by exact rfl)
                    · intro j131 hj131 h
                      rcases bor s125 with hc129 | hc129
                      · have h := h.1 hc129
                        refine GoOps.q (v := .pointer y11) (want_yes rfl rfl rfl hc129) rfl (by decide) (q_move e128_8) ?_
                        refine GoOps.q (v := .pointer y2) (want_yes rfl rfl rfl hc129) rfl (by decide) (q_move e128_5) ?_
                        refine call_dst (want_yes rfl rfl rfl hc129) (by decide) body23 (geom_Geom_Sectors_s _ _ _ h) rfl ?_
                        rintro _ H141 ⟨y142, rfl, h⟩
                        refine call_dst (want_yes rfl rfl rfl hc129) (by decide) body18 (usage_Table_Add_s _ _ _ _ _ h) rfl ?_
                        rintro _ H143 ⟨y144, rfl, h⟩
                        refine GoOps.q (v := .bool (!y144)) (want_yes rfl rfl rfl hc129) rfl (by decide) (q_not rfl) ?_
                        refine GoOps.q (v := .bool (!y144)) rfl rfl (by decide) (q_pickT (btT rfl hc129) rfl) ?_
                        exact hj131 (!y144) _ _ h (by exact rfl)
                      · have h := h.2 hc129
                        refine no_dst (want_no rfl rfl rfl hc129) rfl (by decide) ?_
                        refine no_dst (want_no rfl rfl rfl hc129) rfl (by decide) ?_
                        refine no_dst (want_no rfl rfl rfl hc129) rfl (by decide) ?_
                        refine no_dst (want_no rfl rfl rfl hc129) rfl (by decide) ?_
                        refine no_dst (want_no rfl rfl rfl hc129) rfl (by decide) ?_
                        refine GoOps.q (v := .bool false) rfl rfl (by decide) (q_pickF (btF rfl hc129) rfl) ?_
                        exact hj131 false _ _ h (by exact rfl)
                  · intro j126 hj126 h
                    rcases bor s120 with hc124 | hc124
                    · have h := h.1 hc124
                      refine GoOps.q (v := .pointer y11) (want_yes rfl rfl rfl hc124) rfl (by decide) (q_move e123_8) ?_
                      refine GoOps.q (v := .pointer y2) (want_yes rfl rfl rfl hc124) rfl (by decide) (q_move e123_5) ?_
                      refine call_dst (want_yes rfl rfl rfl hc124) (by decide) body19 (geom_Geom_Seg_s _ _ _ _ h) rfl ?_
                      rintro _ H145 ⟨y146, rfl, h⟩
                      refine GoOps.q (v := .int .i64 (IntKind.wrap .i64 (y146 - 1))) (want_yes rfl rfl rfl hc124) rfl (by decide) (q_sub rfl rfl) ?_
                      refine call_dst (want_yes rfl rfl rfl hc124) (by decide) body18 (usage_Table_Add_s _ _ _ _ _ h) rfl ?_
                      rintro _ H147 ⟨y148, rfl, h⟩
                      refine GoOps.q (v := .bool (!y148)) (want_yes rfl rfl rfl hc124) rfl (by decide) (q_not rfl) ?_
                      refine GoOps.q (v := .bool (!y148)) rfl rfl (by decide) (q_pickT (btT rfl hc124) rfl) ?_
                      exact hj126 (!y148) _ _ h (by exact ⟨e123_5, e123_8, rfl⟩)
                    · have h := h.2 hc124
                      refine no_dst (want_no rfl rfl rfl hc124) rfl (by decide) ?_
                      refine no_dst (want_no rfl rfl rfl hc124) rfl (by decide) ?_
                      refine no_dst (want_no rfl rfl rfl hc124) rfl (by decide) ?_
                      refine no_dst (want_no rfl rfl rfl hc124) rfl (by decide) ?_
                      refine no_dst (want_no rfl rfl rfl hc124) rfl (by decide) ?_
                      refine no_dst (want_no rfl rfl rfl hc124) rfl (by decide) ?_
                      refine GoOps.q (v := .bool false) rfl rfl (by decide) (q_pickF (btF rfl hc124) rfl) ?_
                      exact hj126 false _ _ h (by exact ⟨e123_5, e123_8, rfl⟩)
                · intro j121 hj121 h
                  rcases bor s115 with hc119 | hc119
                  · have h := h.1 hc119
                    refine GoOps.q (v := .pointer y11) (want_yes rfl rfl rfl hc119) rfl (by decide) (q_move e118_8) ?_
                    refine call_dst (want_yes rfl rfl rfl hc119) (by decide) body21 (usage_Table_Release_s _ _ _ h) rfl ?_
                    rintro _ H149 ⟨y150, rfl, h⟩
                    refine GoOps.q (v := .int .i64 (y150.len : Int)) (want_yes rfl rfl rfl hc119) rfl (by decide) (q_len Try.underlying23 rfl (ls1 rfl)) ?_
                    refine GoOps.q (v := .bool ((y150.len : Int) == 0)) (want_yes rfl rfl rfl hc119) rfl (by decide) (q_eql rfl rfl) ?_
                    refine GoOps.q (v := .bool ((y150.len : Int) == 0)) rfl rfl (by decide) (q_pickT (btT rfl hc119) rfl) ?_
                    exact hj121 ((y150.len : Int) == 0) _ _ h (by exact ⟨e118_5, e118_8, rfl⟩)
                  · have h := h.2 hc119
                    refine no_dst (want_no rfl rfl rfl hc119) rfl (by decide) ?_
                    refine no_dst (want_no rfl rfl rfl hc119) rfl (by decide) ?_
                    refine no_dst (want_no rfl rfl rfl hc119) rfl (by decide) ?_
                    refine no_dst (want_no rfl rfl rfl hc119) rfl (by decide) ?_
                    refine GoOps.q (v := .bool false) rfl rfl (by decide) (q_pickF (btF rfl hc119) rfl) ?_
                    exact hj121 false _ _ h (by exact ⟨e118_5, e118_8, rfl⟩)
              · intro j116 hj116 h
                rcases bor y113 with hc114 | hc114
                · have h := h.1 hc114
                  refine GoOps.q (v := .pointer y11) (want_yes rfl rfl rfl hc114) rfl (by decide) (q_move e78_8) ?_
                  refine call_dst (want_yes rfl rfl rfl hc114) (by decide) body15 (usage_Table_Free_s _ _ _ h) rfl ?_
                  rintro _ H151 ⟨y152, rfl, h⟩
                  refine GoOps.q (v := Sl.v s76.1) (want_yes rfl rfl rfl hc114) rfl (by decide) (q_move e78_14) ?_
                  refine GoOps.q (v := .int .i64 (s76.1.len : Int)) (want_yes rfl rfl rfl hc114) rfl (by decide) (q_len Try.underlying23 rfl (ls1 rfl)) ?_
                  refine GoOps.q (v := .bool (y152 == (s76.1.len : Int))) (want_yes rfl rfl rfl hc114) rfl (by decide) (q_eql rfl rfl) ?_
                  refine GoOps.q (v := .bool (y152 == (s76.1.len : Int))) rfl rfl (by decide) (q_pickT (btT rfl hc114) rfl) ?_
                  exact hj116 (y152 == (s76.1.len : Int)) _ _ h (by exact ⟨e78_5, e78_8, rfl⟩)
                · have h := h.2 hc114
                  refine no_dst (want_no rfl rfl rfl hc114) rfl (by decide) ?_
                  refine no_dst (want_no rfl rfl rfl hc114) rfl (by decide) ?_
                  refine no_dst (want_no rfl rfl rfl hc114) rfl (by decide) ?_
                  refine no_dst (want_no rfl rfl rfl hc114) rfl (by decide) ?_
                  refine no_dst (want_no rfl rfl rfl hc114) rfl (by decide) ?_
                  refine GoOps.q (v := .bool false) rfl rfl (by decide) (q_pickF (btF rfl hc114) rfl) ?_
                  exact hj116 false _ _ h (by exact ⟨e78_5, e78_8, rfl⟩)
    · intro j19 hj19 h
      rcases bor s13 with hc17 | hc17
      · have h := h.1 hc17
        refine no_dst (want_no rfl rfl rfl hc17) rfl (by decide) ?_
        refine no_dst (want_no rfl rfl rfl hc17) rfl (by decide) ?_
        refine no_dst (want_no rfl rfl rfl hc17) rfl (by decide) ?_
        refine GoOps.q (v := .bool true) rfl rfl (by decide) (q_pickT (btT rfl hc17) rfl) ?_
        exact hj19 true _ _ h (by exact ⟨e16_0, e16_1, e16_5, e16_7, e16_8, rfl⟩)
      · have h := h.2 hc17
        refine GoOps.q (v := Sl.v p0) (want_yes rfl rfl rfl hc17) rfl (by decide) (q_move e16_0) ?_
        refine GoOps.q (v := .int .i64 (p0.len : Int)) (want_yes rfl rfl rfl hc17) rfl (by decide) (q_len Try.underlying23 rfl (ls1 rfl)) ?_
        refine GoOps.q (v := .bool (decide (30 < (p0.len : Int)))) (want_yes rfl rfl rfl hc17) rfl (by decide) (q_gtr rfl rfl) ?_
        refine GoOps.q (v := .bool (decide (30 < (p0.len : Int)))) rfl rfl (by decide) (q_pickF (btF rfl hc17) rfl) ?_
        exact hj19 (decide (30 < (p0.len : Int))) _ _ h (by exact ⟨e16_0, e16_1, e16_5, e16_7, e16_8, rfl⟩)
  · intro j14 hj14 h
    rcases bor (!y4) with hc12 | hc12
    · have h := h.1 hc12
      refine no_dst (want_no rfl rfl rfl hc12) rfl (by decide) ?_
      refine no_dst (want_no rfl rfl rfl hc12) rfl (by decide) ?_
      refine GoOps.q (v := .bool true) rfl rfl (by decide) (q_pickT (btT rfl hc12) rfl) ?_
      exact hj14 true _ _ h (by exact ⟨rfl, rfl, rfl, rfl, rfl, rfl⟩)
    · have h := h.2 hc12
      refine GoOps.q (v := .pointer y11) (want_yes rfl rfl rfl hc12) rfl (by decide) (q_move rfl) ?_
      refine GoOps.q (v := .bool (Option.isNone y11)) (want_yes rfl rfl rfl hc12) rfl (by decide) (q_eqlPn Try.underlying32 rfl rfl) ?_
      refine GoOps.q (v := .bool (Option.isNone y11)) rfl rfl (by decide) (q_pickF (btF rfl hc12) rfl) ?_
      exact hj14 (Option.isNone y11) _ _ h (by exact ⟨rfl, rfl, rfl, rfl, rfl, rfl⟩)

/-- slices.Clone[[]keelson.api.Use,keelson.api.Use] -/
def slices_Clone_Slapi_Use_api_Use (p0 : Sl) (H : PH) (Q : Sl → PH → Prop) : Prop :=
  mIf (Option.isNone p0.a)
  (Q Sl.nil H)
  (mNewS H (row [] 52) 0 fun r2 H3 =>
  mApp H3 52 2 16 [.int .i64 0, .int .i64 0] r2 p0 fun r5 H6 =>
  Q r5 H6)

set_option maxRecDepth 20000 in
set_option maxHeartbeats 1000000 in
theorem slices_Clone_Slapi_Use_api_Use_s (p0 : Sl) (H : PH) (Q : Sl → PH → Prop) (h : slices_Clone_Slapi_Use_api_Use p0 H Q) :
    CallsH Try.prog 46 #[Sl.v p0] H (fun v H' => ∃ (r0 : Sl), v = Sl.v r0 ∧ Q r0 H') := by
  unfold slices_Clone_Slapi_Use_api_Use at h
  refine callsH_of_go Try.func46 rfl Try.ntmps46 (Nat.le_of_ble_eq_true rfl) ?_
  refine Go.seq ?_
  refine Go.region rfl ?_
  refine GoOps.q (v := Sl.v Sl.nil) rfl rfl (by decide) (q_assign rfl) ?_
  refine GoOps.nil ?_
  refine Go.seq ?_
  refine Go.seq ?_
  refine Go.region rfl ?_
  refine GoOps.q (v := Sl.v p0) rfl rfl (by decide) (q_move rfl) ?_
  refine GoOps.q (v := .bool (Option.isNone p0.a)) rfl rfl (by decide) (q_eqlSn Try.underlying50 rfl rfl) ?_
  refine GoOps.nil ?_
  rcases bor (Option.isNone p0.a) with hc1 | hc1
  · have h := h.1 hc1
    refine Go.condT (btT rfl hc1) ?_
    refine Go.seq ?_
    refine Go.region rfl ?_
    refine GoOps.q (v := Sl.v Sl.nil) rfl rfl (by decide) (q_assign rfl) ?_
    refine GoOps.nil ?_
    exact Go.ret ⟨.inl rfl, _, _, DOk.nil, (resOk1 Try.results46 rfl), ⟨_, rfl, h⟩⟩
  · have h := h.2 hc1
    refine Go.condF (btF rfl hc1) ?_
    refine Go.skip ?_
    refine Go.seq ?_
    refine Go.region rfl ?_
    refine op_dst rfl rfl (by decide) (do_bs0 slice50 fun r2 H3 hb4 => ?_) 
    have h := h r2 H3 hb4
    refine GoOps.q (v := Sl.v p0) rfl rfl (by decide) (q_move rfl) ?_
    refine op_dst rfl rfl (by decide) (do_append (zs := [.int .i64 0, .int .i64 0]) slice50 bytes52 (by decide) zero52 rfl rfl (by decide) rfl rfl Try.underlying50 rfl h fun r5 H6 h => ?_) 
    refine GoOps.q (v := Sl.v r5) rfl rfl (by decide) (q_assign rfl) ?_
    refine GoOps.nil ?_
    exact Go.ret ⟨.inl rfl, _, _, DOk.nil, (resOk1 Try.results46 rfl), ⟨_, rfl, h⟩⟩

/-- (*keelson.usage.Table).Uses -/
def usage_Table_Uses (p0 : Option Addr) (p1 : Bool) (H : PH) (Q : Sl → PH → Prop) : Prop :=
  mIf (Option.isNone p0)
  (Q Sl.nil H)
  (mNil p0 fun a2 =>
  mLd Sl.v H (a2.add 1) fun x4 =>
  slices_Clone_Slapi_Use_api_Use x4 H fun y7 H6 =>
  mLoop (fun (s8 : Int) (H11 : PH) (again9 : Int → PH → Prop) =>
  mIf (decide (s8 < (y7.len : Int)))
  (mJoin (fun (s13 : Unit) (H15 : PH) =>
  again9 (IntKind.wrap .i64 (s8 + 1)) H15)
  fun j14 =>
  mJoin (fun (s18 : Bool) (H20 : PH) =>
  mIf s18
  (mIdx y7 2 s8 fun a23 =>
  mSt H20 (a23.add 0) ([.int .i64 0]) fun H25 =>
  j14 () H25)
  (j14 () H20))
  fun j19 =>
  mIf p1
  (usage_Table_idle p0 s8 H11 fun y28 H27 =>
  j19 y28 H27)
  (j19 false H11))
  (Q y7 H11))
  0 H6)

set_option maxRecDepth 20000 in
set_option maxHeartbeats 1000000 in
theorem usage_Table_Uses_s (p0 : Option Addr) (p1 : Bool) (H : PH) (Q : Sl → PH → Prop) (h : usage_Table_Uses p0 p1 H Q) :
    CallsH Try.prog 24 #[.pointer p0, .bool p1] H (fun v H' => ∃ (r0 : Sl), v = Sl.v r0 ∧ Q r0 H') := by
  unfold usage_Table_Uses at h
  refine callsH_of_go Try.func24 rfl Try.ntmps24 (Nat.le_of_ble_eq_true rfl) ?_
  refine Go.seq ?_
  refine Go.region rfl ?_
  refine GoOps.q (v := Sl.v Sl.nil) rfl rfl (by decide) (q_assign rfl) ?_
  refine GoOps.nil ?_
  refine Go.seq ?_
  refine Go.seq ?_
  refine Go.region rfl ?_
  refine GoOps.q (v := .pointer p0) rfl rfl (by decide) (q_move rfl) ?_
  refine GoOps.q (v := .bool (Option.isNone p0)) rfl rfl (by decide) (q_eqlPn Try.underlying32 rfl rfl) ?_
  refine GoOps.nil ?_
  rcases bor (Option.isNone p0) with hc1 | hc1
  · have h := h.1 hc1
    refine Go.condT (btT rfl hc1) ?_
    refine Go.seq ?_
    refine Go.region rfl ?_
    refine GoOps.q (v := Sl.v Sl.nil) rfl rfl (by decide) (q_assign rfl) ?_
    refine GoOps.nil ?_
    exact Go.ret ⟨.inl rfl, _, _, DOk.nil, (resOk1 Try.results24 rfl), ⟨_, rfl, h⟩⟩
  · have h := h.2 hc1
    refine Go.condF (btF rfl hc1) ?_
    refine Go.skip ?_
    refine Go.seq ?_
    refine Go.region rfl ?_
    refine GoOps.q (v := .pointer p0) rfl rfl (by decide) (q_move rfl) ?_
    obtain ⟨a2, ha3, h⟩ := h
    refine GoOps.q (v := .pointer (some a2)) rfl rfl (by decide) (q_nilCheck (ptn rfl ha3)) ?_
    refine GoOps.q (v := .pointer (some (a2.add 1))) rfl rfl (by decide) (q_fieldAddr foff71_1 rfl) ?_
    obtain ⟨x4, hx5, h⟩ := h
    refine GoOps.q (v := Sl.v x4) rfl rfl (by decide) (q_load scalar50 rfl hx5) ?_
    refine call_dst rfl (by decide) body46 (slices_Clone_Slapi_Use_api_Use_s _ _ _ h) rfl ?_
    rintro _ H6 ⟨y7, rfl, h⟩
    refine GoOps.q (v := Sl.v y7) rfl rfl (by decide) (q_assign rfl) ?_
    refine GoOps.nil ?_
    refine Go.seq ?_
    refine Go.seq ?_
    refine Go.region rfl ?_
    refine GoOps.q (v := Sl.v y7) rfl rfl (by decide) (q_move rfl) ?_
    refine GoOps.q (v := .int .i64 (y7.len : Int)) rfl rfl (by decide) (q_len Try.underlying50 rfl (ls1 rfl)) ?_
    refine GoOps.q (v := .int .i64 0) rfl rfl (by decide) (q_move rfl) ?_
    refine GoOps.nil ?_
    refine Go.block ?_
    refine loop_go (fun ρ (s8 : Int) => ρ 0 = .pointer p0 ∧ ρ 1 = .bool p1 ∧ ρ 5 = Sl.v y7 ∧ ρ 15 = .int .i64 (y7.len : Int) ∧ ρ 16 = .int .i64 s8) h ⟨rfl, rfl, rfl, rfl, rfl⟩ ?_
    clear h
    intro ρ s8 H11 again9 hE h hagain9
    obtain ⟨e10_0, e10_1, e10_5, e10_15, e10_16⟩ := hE
    refine Go.seq ?_
    refine Go.region rfl ?_
    refine GoOps.q (v := .bool (decide (s8 < (y7.len : Int)))) rfl rfl (by decide) (q_lss e10_16 e10_15) ?_
    refine GoOps.nil ?_
    refine Go.seq ?_
    rcases bor (decide (s8 < (y7.len : Int))) with hc12 | hc12
    · have h := h.1 hc12
      refine Go.condT (btT rfl hc12) ?_
      refine Go.skip ?_
      refine Go.seq ?_
      refine join_go 1 (fun ρ (s13 : Unit) => ρ 0 = .pointer p0 ∧ ρ 1 = .bool p1 ∧ ρ 5 = Sl.v y7 ∧ ρ 15 = .int .i64 (y7.len : Int) ∧ ρ 16 = .int .i64 s8) h ?_ ?_ <;> clear h
      · intro s13 H15 ρ h hE
        obtain ⟨e16_0, e16_1, e16_5, e16_15, e16_16⟩ := hE
        refine Go.region rfl ?_
        refine GoOps.q (v := .int .i64 (IntKind.wrap .i64 (s8 + 1))) rfl rfl (by decide) (q_add e16_16 rfl) ?_
        refine GoOps.q (v := .int .i64 (IntKind.wrap .i64 (s8 + 1))) rfl rfl (by decide) (q_move rfl) ?_
        refine GoOps.nil ?_
        exact hagain9 _ _ _ h ⟨e16_0, e16_1, e16_5, e16_15, rfl⟩
      · intro j14 hj14 h
        refine Go.block ?_
        refine Go.seq ?_
        refine Go.region rfl ?_
        refine GoOps.q (v := .int .i64 s8) rfl rfl (by decide) (q_move e10_16) ?_
        refine GoOps.q (v := .int .i64 s8) rfl rfl (by decide) (q_assign rfl) ?_
        refine GoOps.nil ?_
        refine Go.seq ?_
        refine Go.region rfl ?_
        refine GoOps.q (v := .bool p1) rfl rfl (by decide) (q_move e10_1) ?_
        refine GoOps.q (v := .bool p1) rfl rfl (by decide) (q_move rfl) ?_
        refine join_ops 4 (fun ρ (s18 : Bool) => ρ 0 = .pointer p0 ∧ ρ 1 = .bool p1 ∧ ρ 5 = Sl.v y7 ∧ ρ 6 = .int .i64 s8 ∧ ρ 15 = .int .i64 (y7.len : Int) ∧ ρ 16 = .int .i64 s8 ∧ ρ 24 = .bool s18) h ?_ ?_ <;> clear h
        · intro s18 H20 ρ h hE
          obtain ⟨e21_0, e21_1, e21_5, e21_6, e21_15, e21_16, e21_24⟩ := hE
          refine GoOps.nil ?_
          rcases bor s18 with hc22 | hc22
          · have h := h.1 hc22
            refine Go.condT (btT e21_24 hc22) ?_
            refine Go.region rfl ?_
            refine GoOps.q (v := Sl.v y7) rfl rfl (by decide) (q_move e21_5) ?_
            refine GoOps.q (v := .int .i64 s8) rfl rfl (by decide) (q_move e21_6) ?_
            obtain ⟨a23, ha24, h⟩ := h
            refine GoOps.q (v := .pointer (some a23)) rfl rfl (by decide) (q_idx slice50 ha24 rfl rfl) ?_
            refine GoOps.q (v := .pointer (some (a23.add 0))) rfl rfl (by decide) (q_fieldAddr foff52_0 rfl) ?_
            obtain ⟨q26b, q26o, q26c, q26e, hq26a, hq26b, hq26l, hq26v, h⟩ := h
            refine op_none rfl rfl (do_store (vs := [.int .i64 0]) size3 (pta rfl hq26a) rfl rfl rfl hq26v hq26b hq26l ?_) 
            refine GoOps.nil ?_
            refine Go.inBlock ?_
            exact hj14 _ _ _ h ⟨e21_0, e21_1, e21_5, e21_15, e21_16⟩
          · have h := h.2 hc22
            refine Go.condF (btF e21_24 hc22) ?_
            refine Go.skip ?_
            refine Go.inBlock ?_
            exact hj14 _ _ _ h ⟨e21_0, e21_1, e21_5, e21_15, e21_16⟩
        · intro j19 hj19 h
          rcases bor p1 with hc17 | hc17
          · have h := h.1 hc17
            refine GoOps.q (v := .pointer p0) (want_yes rfl rfl rfl hc17) rfl (by decide) (q_move e10_0) ?_
            refine GoOps.q (v := .int .i64 s8) (want_yes rfl rfl rfl hc17) rfl (by decide) (q_move rfl) ?_
            refine call_dst (want_yes rfl rfl rfl hc17) (by decide) body45 (usage_Table_idle_s _ _ _ _ h) rfl ?_
            rintro _ H27 ⟨y28, rfl, h⟩
            refine GoOps.q (v := .bool y28) rfl rfl (by decide) (q_pickT (btT rfl hc17) rfl) ?_
            exact hj19 y28 _ _ h (by exact ⟨e10_0, e10_1, e10_5, rfl, e10_15, e10_16, rfl⟩)
          · have h := h.2 hc17
            refine no_dst (want_no rfl rfl rfl hc17) rfl (by decide) ?_
            refine no_dst (want_no rfl rfl rfl hc17) rfl (by decide) ?_
            refine no_dst (want_no rfl rfl rfl hc17) rfl (by decide) ?_
            refine GoOps.q (v := .bool false) rfl rfl (by decide) (q_pickF (btF rfl hc17) rfl) ?_
            exact hj19 false _ _ h (by exact ⟨e10_0, e10_1, e10_5, rfl, e10_15, e10_16, rfl⟩)
    · have h := h.2 hc12
      refine Go.condF (btF rfl hc12) ?_
      refine Go.exit rfl ?_
      refine Go.seq ?_
      refine Go.region rfl ?_
      refine GoOps.q (v := Sl.v y7) rfl rfl (by decide) (q_move e10_5) ?_
      refine GoOps.q (v := Sl.v y7) rfl rfl (by decide) (q_assign rfl) ?_
      refine GoOps.nil ?_
      exact Go.ret ⟨.inl rfl, _, _, DOk.nil, (resOk1 Try.results24 rfl), ⟨_, rfl, h⟩⟩

/-- keelson.keelsonalike.Uses -/
def keelsonalike_Uses (p0 : Sl) (p1 : Sl) (H : PH) (Q : Bool → PH → Prop) : Prop :=
  mIf ((p0.len : Int) != (p1.len : Int))
  (Q false H)
  (mLoop (fun (s2 : Int) (H5 : PH) (again3 : Int → PH → Prop) =>
  mIf (decide (s2 < (p0.len : Int)))
  (mIdx p0 2 s2 fun a7 =>
  mLdR (fun (x : (Int × Int)) => [.int .i64 x.1, .int .i64 x.2]) H5 a7 2 fun x9 =>
  mIdx p1 2 s2 fun a11 =>
  mLdR (fun (x : (Int × Int)) => [.int .i64 x.1, .int .i64 x.2]) H5 a11 2 fun x13 =>
  mIf (!(andAll [x9.1 == x13.1, x9.2 == x13.2]))
  (Q false H5)
  (again3 (IntKind.wrap .i64 (s2 + 1)) H5))
  (Q true H5))
  0 H)

set_option maxRecDepth 20000 in
set_option maxHeartbeats 1000000 in
theorem keelsonalike_Uses_s (p0 : Sl) (p1 : Sl) (H : PH) (Q : Bool → PH → Prop) (h : keelsonalike_Uses p0 p1 H Q) :
    CallsH Try.prog 26 #[Sl.v p0, Sl.v p1] H (fun v H' => ∃ (r0 : Bool), v = .bool r0 ∧ Q r0 H') := by
  unfold keelsonalike_Uses at h
  refine callsH_of_go Try.func26 rfl Try.ntmps26 (Nat.le_of_ble_eq_true rfl) ?_
  refine Go.seq ?_
  refine Go.region rfl ?_
  refine GoOps.q (v := .bool false) rfl rfl (by decide) (q_assign rfl) ?_
  refine GoOps.nil ?_
  refine Go.seq ?_
  refine Go.seq ?_
  refine Go.region rfl ?_
  refine GoOps.q (v := Sl.v p0) rfl rfl (by decide) (q_move rfl) ?_
  refine GoOps.q (v := .int .i64 (p0.len : Int)) rfl rfl (by decide) (q_len Try.underlying50 rfl (ls1 rfl)) ?_
  refine GoOps.q (v := Sl.v p1) rfl rfl (by decide) (q_move rfl) ?_
  refine GoOps.q (v := .int .i64 (p1.len : Int)) rfl rfl (by decide) (q_len Try.underlying50 rfl (ls1 rfl)) ?_
  refine GoOps.q (v := .bool ((p0.len : Int) != (p1.len : Int))) rfl rfl (by decide) (q_neq rfl rfl) ?_
  refine GoOps.nil ?_
  rcases bor ((p0.len : Int) != (p1.len : Int)) with hc1 | hc1
  · have h := h.1 hc1
    refine Go.condT (btT rfl hc1) ?_
    refine Go.seq ?_
    refine Go.region rfl ?_
    refine GoOps.q (v := .bool false) rfl rfl (by decide) (q_assign rfl) ?_
    refine GoOps.nil ?_
    exact Go.ret ⟨.inl rfl, _, _, DOk.nil, (resOk1 Try.results26 rfl), ⟨_, rfl, h⟩⟩
  · have h := h.2 hc1
    refine Go.condF (btF rfl hc1) ?_
    refine Go.skip ?_
    refine Go.seq ?_
    refine Go.seq ?_
    refine Go.region rfl ?_
    refine GoOps.q (v := .int .i64 0) rfl rfl (by decide) (q_assign rfl) ?_
    refine GoOps.nil ?_
    refine Go.block ?_
    refine loop_go (fun ρ (s2 : Int) => ρ 0 = Sl.v p0 ∧ ρ 1 = Sl.v p1 ∧ ρ 5 = .int .i64 s2) h ⟨rfl, rfl, rfl⟩ ?_
    clear h
    intro ρ s2 H5 again3 hE h hagain3
    obtain ⟨e4_0, e4_1, e4_5⟩ := hE
    refine Go.seq ?_
    refine Go.seq ?_
    refine Go.region rfl ?_
    refine GoOps.q (v := .int .i64 s2) rfl rfl (by decide) (q_move e4_5) ?_
    refine GoOps.q (v := Sl.v p0) rfl rfl (by decide) (q_move e4_0) ?_
    refine GoOps.q (v := .int .i64 (p0.len : Int)) rfl rfl (by decide) (q_len Try.underlying50 rfl (ls1 rfl)) ?_
    refine GoOps.q (v := .bool (decide (s2 < (p0.len : Int)))) rfl rfl (by decide) (q_lss rfl rfl) ?_
    refine GoOps.nil ?_
    rcases bor (decide (s2 < (p0.len : Int))) with hc6 | hc6
    · have h := h.1 hc6
      refine Go.condT (btT rfl hc6) ?_
      refine Go.skip ?_
      refine Go.seq ?_
      refine Go.block ?_
      refine Go.seq ?_
      refine Go.draw mixed ?_
      refine plan_pure (i := 0) (d := 17) (S2 := 1) (v := Sl.v p0) rfl (by decide +kernel) rfl (q_move e4_0) ?_
      refine plan_pure (i := 1) (d := 18) (S2 := 3) (v := .int .i64 s2) rfl (by decide +kernel) rfl (q_move e4_5) ?_
      obtain ⟨a7, ha8, h⟩ := h
      refine plan_pure (i := 2) (d := 19) (S2 := 7) (v := .pointer (some a7)) rfl (by decide +kernel) rfl (q_idx slice50 ha8 rfl rfl) ?_
      obtain ⟨x9, hx10, h⟩ := h
      refine plan_load (i := 3) (d := 20) (S2 := 15) (v := .agg ([.int .i64 x9.1, .int .i64 x9.2] : List Value).toArray) rfl (by decide +kernel) rfl (q_loadA aggr52 rfl hx10) ?_
      refine plan_pure (i := 4) (d := 21) (S2 := 31) (v := Sl.v p1) rfl (by decide +kernel) rfl (q_move e4_1) ?_
      refine plan_pure (i := 5) (d := 22) (S2 := 63) (v := .int .i64 s2) rfl (by decide +kernel) rfl (q_move e4_5) ?_
      obtain ⟨a11, ha12, h⟩ := h
      refine plan_pure (i := 6) (d := 23) (S2 := 127) (v := .pointer (some a11)) rfl (by decide +kernel) rfl (q_idx slice50 ha12 rfl rfl) ?_
      obtain ⟨x13, hx14, h⟩ := h
      refine plan_load (i := 7) (d := 24) (S2 := 255) (v := .agg ([.int .i64 x13.1, .int .i64 x13.2] : List Value).toArray) rfl (by decide +kernel) rfl (q_loadA aggr52 rfl hx14) ?_
      refine plan_pure (i := 8) (d := 25) (S2 := 511) (v := .bool (!(andAll [x9.1 == x13.1, x9.2 == x13.2]))) rfl (by decide +kernel) rfl (q_neqA eqg52 (eqis_struct Try.underlying52 held52 (.cons (by decide) (eqat_int Try.underlying3 rfl rfl) (.cons (by decide) (eqat_int Try.underlying3 rfl rfl) rfl))) rfl rfl) ?_
      refine plan_done (by decide +kernel) ?_
      rcases bor (!(andAll [x9.1 == x13.1, x9.2 == x13.2])) with hc15 | hc15
      · have h := h.1 hc15
        refine Go.condT (btT rfl hc15) ?_
        refine Go.seq ?_
        refine Go.region rfl ?_
        refine GoOps.q (v := .bool false) rfl rfl (by decide) (q_assign rfl) ?_
        refine GoOps.nil ?_
        exact Go.ret ⟨.inl rfl, _, _, DOk.nil, (resOk1 Try.results26 rfl), ⟨_, rfl, h⟩⟩
      · have h := h.2 hc15
        refine Go.condF (btF rfl hc15) ?_
        refine Go.skip ?_
        refine Go.inBlock ?_
        refine Go.region rfl ?_
        refine GoOps.q (v := .int .i64 s2) rfl rfl (by decide) (q_move e4_5) ?_
        refine GoOps.q (v := .int .i64 (IntKind.wrap .i64 (s2 + 1))) rfl rfl (by decide) (q_add rfl rfl) ?_
        refine GoOps.q (v := .int .i64 (IntKind.wrap .i64 (s2 + 1))) rfl rfl (by decide) (q_assign rfl) ?_
        refine GoOps.nil ?_
        exact hagain3 _ _ _ h ⟨e4_0, e4_1, rfl⟩
    · have h := h.2 hc6
      refine Go.condF (btF rfl hc6) ?_
      refine Go.exit rfl ?_
      refine Go.seq ?_
      refine Go.region rfl ?_
      refine GoOps.q (v := .bool true) rfl rfl (by decide) (q_assign rfl) ?_
      refine GoOps.nil ?_
      exact Go.ret ⟨.inl rfl, _, _, DOk.nil, (resOk1 Try.results26 rfl), ⟨_, rfl, h⟩⟩

/-- keelson.keelsonlaw12.UsageStates -/
def keelsonlaw12_UsageStates (p0 : (Int × Int × Int)) (p1 : Sl) (p2 : Sl) (H : PH) (Q : Bool → PH → Prop) : Prop :=
  mNew H (row [.int .i64 p0.1, .int .i64 p0.2.1, .int .i64 p0.2.2] 22) fun a1 H2 =>
  mLdR (fun (x : (Int × Int × Int)) => [.int .i64 x.1, .int .i64 x.2.1, .int .i64 x.2.2]) H2 a1 3 fun x4 =>
  keelsonalike_Config (x4.1, x4.2.1, x4.2.2) false H2 fun y7 H6 =>
  mNew H6 (row [.int .i64 0, .int .i64 0, .int .i64 0] 26) fun a8 H9 =>
  mSt H9 a8 ([.int .i64 y7.1, .int .i64 y7.2.1, .int .i64 y7.2.2]) fun H11 =>
  mLdR (fun (x : (Int × Int × Int)) => [.int .i64 x.1, .int .i64 x.2.1, .int .i64 x.2.2]) H11 a8 3 fun x13 =>
  geom_New (x13.1, x13.2.1, x13.2.2) H11 fun y16 y17 H15 =>
  mJoin (fun (s19 : Bool) (H21 : PH) =>
  mJoin (fun (s24 : Bool) (H26 : PH) =>
  mJoin (fun (s29 : Bool) (H31 : PH) =>
  mIf s29
  (mJoin (fun (s35 : Bool) (H37 : PH) =>
  mJoin (fun (s40 : Bool) (H42 : PH) =>
  Q s40 H42)
  fun j41 =>
  mIf s35
  (keelsonlaw12_awake H37 fun y45 H44 =>
  j41 y45 H44)
  (j41 false H37))
  fun j36 =>
  mIf (y17 == 0)
  (j36 (!(Option.isNone y16)) H31)
  (j36 false H31))
  (mNew H31 (row [.int .i64 0, .int .i64 0, .int .i64 0] 22) fun a46 H47 =>
  mLoop (fun (s49 : Sl × Int) (H52 : PH) (again50 : (Sl × Int) → PH → Prop) =>
  mLd (.int .i64) H52 (a8.add 1) fun x53 =>
  mIf (decide (s49.2 < x53))
  (mJoin (fun (s56 : Addr) (H58 : PH) =>
  mLdR (fun (x : (Int × Int)) => [.int .i64 x.1, .int .i64 x.2]) H58 s56 2 fun x60 =>
  mNewS H58 (row [.int .i64 x60.1, .int .i64 x60.2] 52) 1 fun r62 H63 =>
  mApp H63 52 2 16 [.int .i64 0, .int .i64 0] s49.1 r62 fun r65 H66 =>
  mLd (.int .i64) H66 (s56.add 0) fun x67 =>
  mIdxA 3 a46 1 x67 fun a69 =>
  mLd (.int .i64) H66 a69 fun x71 =>
  mIdxA 3 a46 1 x67 fun a73 =>
  mSt H66 a73 ([.int .i64 (IntKind.wrap .i64 (x71 + 1))]) fun H75 =>
  again50 (r65, IntKind.wrap .i64 (s49.2 + 1)) H75)
  fun j57 =>
  mIdx p1 1 s49.2 fun a77 =>
  mLd (.int .i64) H52 a77 fun x79 =>
  mIdx p2 1 s49.2 fun a81 =>
  mLd (.int .i64) H52 a81 fun x83 =>
  keelsonalike_Round x79 3 H52 fun y86 H85 =>
  mSame H85 a81 (.int .i64 x83) <|
  keelsonalike_Round x83 2147483647 H85 fun y89 H88 =>
  mNew H88 (row [.int .i64 0, .int .i64 0] 52) fun a90 H91 =>
  mSt H91 a90 ([.int .i64 y86, .int .i64 y89]) fun H93 =>
  j57 a90 H93)
  (usage_New y16 s49.1 H52 fun y121 H120 =>
  mIf (Option.isNone y121)
  (Q false H120)
  (usage_Table_Uses y121 false H120 fun y124 H123 =>
  usage_New y16 y124 H123 fun y126 H125 =>
  mIf (Option.isNone y126)
  (Q false H125)
  (mIdxA 3 a46 1 0 fun a128 =>
  mLd (.int .i64) H125 a128 fun x130 =>
  usage_Table_Free y121 H125 fun y133 H132 =>
  mSame H132 a128 (.int .i64 x130) <|
  mJoin (fun (s136 : Bool) (H138 : PH) =>
  mJoin (fun (s141 : Bool) (H143 : PH) =>
  mJoin (fun (s146 : Bool) (H148 : PH) =>
  mJoin (fun (s151 : Bool) (H153 : PH) =>
  mJoin (fun (s156 : Bool) (H158 : PH) =>
  Q s156 H158)
  fun j157 =>
  mIf s151
  (keelsonlaw12_awake H153 fun y161 H160 =>
  j157 y161 H160)
  (j157 false H153))
  fun j152 =>
  mIf s146
  (mIdxA 3 a46 1 0 fun a162 =>
  mLd (.int .i64) H148 a162 fun x164 =>
  mIdxA 3 a46 1 2 fun a166 =>
  mLd (.int .i64) H148 a166 fun x168 =>
  usage_Table_Free y126 H148 fun y171 H170 =>
  mSame H170 a166 (.int .i64 x168) <|
  mSame H170 a162 (.int .i64 x164) <|
  j152 (y171 == (IntKind.wrap .i64 (x164 + x168))) H170)
  (j152 false H148))
  fun j147 =>
  mIf s141
  (mIdxA 3 a46 1 2 fun a174 =>
  mLd (.int .i64) H143 a174 fun x176 =>
  usage_Table_Release y126 H143 fun y179 H178 =>
  mSame H178 a174 (.int .i64 x176) <|
  j147 ((y179.len : Int) == x176) H178)
  (j147 false H143))
  fun j142 =>
  mIf s136
  (usage_Table_Uses y126 false H138 fun y182 H181 =>
  keelsonalike_Uses y182 s49.1 H181 fun y184 H183 =>
  j142 y184 H183)
  (j142 false H138))
  fun j137 =>
  mIf (y133 == x130)
  (mIdxA 3 a46 1 2 fun a185 =>
  mLd (.int .i64) H132 a185 fun x187 =>
  keelsonlaw12_sealed y121 99 H132 fun y190 H189 =>
  mSame H189 a185 (.int .i64 x187) <|
  j137 ((y190.len : Int) == x187) H189)
  (j137 false H132)))))
  (Sl.nil, 0) H47))
  fun j30 =>
  mIf s24
  (j30 true H26)
  (mLd (.int .i64) H26 (a8.add 1) fun x192 =>
  j30 (decide ((p2.len : Int) < x192)) H26))
  fun j25 =>
  mIf s19
  (j25 true H21)
  (mLd (.int .i64) H21 (a8.add 1) fun x194 =>
  j25 (decide ((p1.len : Int) < x194)) H21))
  fun j20 =>
  mIf (y17 != 0)
  (j20 true H15)
  (j20 (Option.isNone y16) H15)

set_option maxRecDepth 20000 in
set_option maxHeartbeats 1000000 in
theorem keelsonlaw12_UsageStates_s (p0 : (Int × Int × Int)) (p1 : Sl) (p2 : Sl) (H : PH) (Q : Bool → PH → Prop) (h : keelsonlaw12_UsageStates p0 p1 p2 H Q) :
    CallsH Try.prog 5 #[.agg ([.int .i64 p0.1, .int .i64 p0.2.1, .int .i64 p0.2.2] : List Value).toArray, Sl.v p1, Sl.v p2] H (fun v H' => ∃ (r0 : Bool), v = .bool r0 ∧ Q r0 H') := by
  unfold keelsonlaw12_UsageStates at h
  refine callsH_of_go Try.func5 rfl Try.ntmps5 (Nat.le_of_ble_eq_true rfl) ?_
  refine Go.seq ?_
  refine Go.region rfl ?_
  refine op_dst rfl rfl (by decide) (do_newBox (cs := [.int .i64 p0.1, .int .i64 p0.2.1, .int .i64 p0.2.2]) rfl rfl fun a1 H2 hb3 => ?_) 
  have h := h a1 H2 hb3
  refine GoOps.q (v := .bool false) rfl rfl (by decide) (q_assign rfl) ?_
  refine GoOps.nil ?_
  refine Go.seq ?_
  refine Go.region rfl ?_
  obtain ⟨x4, hx5, h⟩ := h
  refine GoOps.q (v := .agg ([.int .i64 x4.1, .int .i64 x4.2.1, .int .i64 x4.2.2] : List Value).toArray) rfl rfl (by decide) (q_loadA aggr22 rfl hx5) ?_
  refine call_dst rfl (by decide) body8 (keelsonalike_Config_s _ _ _ _ h) rfl ?_
  rintro _ H6 ⟨y7, rfl, h⟩
  refine op_dst rfl rfl (by decide) (do_new zero26 rfl fun a8 H9 hb10 => ?_) 
  have h := h a8 H9 hb10
  obtain ⟨q12b, q12o, q12c, q12e, hq12a, hq12b, hq12l, hq12v, h⟩ := h
  refine op_none rfl rfl (do_store (vs := [.int .i64 y7.1, .int .i64 y7.2.1, .int .i64 y7.2.2]) size26 (pta rfl hq12a) rfl rfl rfl hq12v hq12b hq12l ?_) 
  refine GoOps.nil ?_
  refine Go.seq ?_
  refine Go.region rfl ?_
  obtain ⟨x13, hx14, h⟩ := h
  refine GoOps.q (v := .agg ([.int .i64 x13.1, .int .i64 x13.2.1, .int .i64 x13.2.2] : List Value).toArray) rfl rfl (by decide) (q_loadA aggr26 rfl hx14) ?_
  refine call_dst rfl (by decide) body9 (geom_New_s _ _ _ h) rfl ?_
  rintro _ H15 ⟨y16, y17, rfl, h⟩
  refine GoOps.q (v := .tuple #[.pointer y16, .int .i64 y17]) rfl rfl (by decide) (q_move rfl) ?_
  refine GoOps.q (v := .pointer y16) rfl rfl (by decide) (q_extract rfl rfl) ?_
  refine GoOps.q (v := .int .i64 y17) rfl rfl (by decide) (q_extract rfl rfl) ?_
  refine GoOps.q (v := .pointer y16) rfl rfl (by decide) (q_assign rfl) ?_
  refine GoOps.q (v := .int .i64 y17) rfl rfl (by decide) (q_assign rfl) ?_
  refine GoOps.nil ?_
  refine Go.seq ?_
  refine Go.seq ?_
  refine Go.region rfl ?_
  refine GoOps.q (v := .int .i64 y17) rfl rfl (by decide) (q_move rfl) ?_
  refine GoOps.q (v := .bool (y17 != 0)) rfl rfl (by decide) (q_neq rfl rfl) ?_
  refine GoOps.q (v := .bool (y17 != 0)) rfl rfl (by decide) (q_move rfl) ?_
  refine join_ops 3 (fun ρ (s19 : Bool) => ρ 1 = Sl.v p1 ∧ ρ 2 = Sl.v p2 ∧ ρ 7 = .pointer (some a8) ∧ ρ 8 = .pointer y16 ∧ ρ 9 = .int .i64 y17 ∧ ρ 28 = .bool s19) h ?_ ?_ <;> clear h
  · intro s19 H21 ρ h hE
    obtain ⟨e22_1, e22_2, e22_7, e22_8, e22_9, e22_28⟩ := hE
    refine GoOps.q (v := .bool s19) rfl rfl (by decide) (q_move e22_28) ?_
    refine join_ops 6 (fun ρ (s24 : Bool) => ρ 1 = Sl.v p1 ∧ ρ 2 = Sl.v p2 ∧ ρ 7 = .pointer (some a8) ∧ ρ 8 = .pointer y16 ∧ ρ 9 = .int .i64 y17 ∧ ρ 35 = .bool s24) h ?_ ?_ <;> clear h
    · intro s24 H26 ρ h hE
      obtain ⟨e27_1, e27_2, e27_7, e27_8, e27_9, e27_35⟩ := hE
      refine GoOps.q (v := .bool s24) rfl rfl (by decide) (q_move e27_35) ?_
      refine join_ops 6 (fun ρ (s29 : Bool) => ρ 1 = Sl.v p1 ∧ ρ 2 = Sl.v p2 ∧ ρ 7 = .pointer (some a8) ∧ ρ 8 = .pointer y16 ∧ ρ 9 = .int .i64 y17 ∧ ρ 42 = .bool s29) h ?_ ?_ <;> clear h
      · intro s29 H31 ρ h hE
        obtain ⟨e32_1, e32_2, e32_7, e32_8, e32_9, e32_42⟩ := hE
        refine GoOps.nil ?_
        rcases bor s29 with hc33 | hc33
        · have h := h.1 hc33
          refine Go.condT (btT e32_42 hc33) ?_
          refine Go.seq ?_
          refine Go.region rfl ?_
          refine GoOps.q (v := .int .i64 y17) rfl rfl (by decide) (q_move e32_9) ?_
          refine GoOps.q (v := .bool (y17 == 0)) rfl rfl (by decide) (q_eql rfl rfl) ?_
          refine GoOps.q (v := .bool (y17 == 0)) rfl rfl (by decide) (q_move rfl) ?_
          refine join_ops 3 (fun ρ (s35 : Bool) => ρ 48 = .bool s35) h ?_ ?_ <;> clear h
          · intro s35 H37 ρ h hE
            have e38_48 := hE
            refine GoOps.q (v := .bool s35) rfl rfl (by decide) (q_move e38_48) ?_
            refine join_ops 2 (fun ρ (s40 : Bool) => ρ 51 = .bool s40) h ?_ ?_ <;> clear h
            · intro s40 H42 ρ h hE
              have e43_51 := hE
              refine GoOps.q (v := .bool s40) rfl rfl (by decide) (q_assign e43_51) ?_
              refine GoOps.nil ?_
              exact Go.ret ⟨.inl rfl, _, _, DOk.nil, (resOk1 Try.results5 rfl), ⟨_, rfl, h⟩⟩
            · intro j41 hj41 h
              rcases bor s35 with hc39 | hc39
              · have h := h.1 hc39
                refine call_dst (want_yes rfl rfl rfl hc39) (by decide) body7 (keelsonlaw12_awake_s _ _ h) rfl ?_
                rintro _ H44 ⟨y45, rfl, h⟩
                refine GoOps.q (v := .bool y45) rfl rfl (by decide) (q_pickT (btT rfl hc39) rfl) ?_
                exact hj41 y45 _ _ h (by exact rfl)
              · have h := h.2 hc39
                refine no_dst (want_no rfl rfl rfl hc39) rfl (by decide) ?_
                refine GoOps.q (v := .bool false) rfl rfl (by decide) (q_pickF (btF rfl hc39) rfl) ?_
                exact hj41 false _ _ h (by exact rfl)
          · intro j36 hj36 h
            rcases bor (y17 == 0) with hc34 | hc34
            · have h := h.1 hc34
              refine GoOps.q (v := .pointer y16) (want_yes rfl rfl rfl hc34) rfl (by decide) (q_move e32_8) ?_
              refine GoOps.q (v := .bool (!(Option.isNone y16))) (want_yes rfl rfl rfl hc34) rfl (by decide) (q_neqPn Try.underlying28 rfl rfl) ?_
              refine GoOps.q (v := .bool (!(Option.isNone y16))) rfl rfl (by decide) (q_pickT (btT rfl hc34) rfl) ?_
              exact hj36 (!(Option.isNone y16)) _ _ h (by exact rfl)
            · have h := h.2 hc34
              refine no_dst (want_no rfl rfl rfl hc34) rfl (by decide) ?_
              refine no_dst (want_no rfl rfl rfl hc34) rfl (by decide) ?_
              refine GoOps.q (v := .bool false) rfl rfl (by decide) (q_pickF (btF rfl hc34) rfl) ?_
              exact hj36 false _ _ h (by exact rfl)
        · have h := h.2 hc33
          refine Go.condF (btF e32_42 hc33) ?_
          refine Go.skip ?_
          refine Go.seq ?_
          refine Go.region rfl ?_
          refine GoOps.q (v := Sl.v Sl.nil) rfl rfl (by decide) (q_assign rfl) ?_
          refine GoOps.nil ?_
          refine Go.seq ?_
          refine Go.region rfl ?_
          refine op_dst rfl rfl (by decide) (do_new zero22 rfl fun a46 H47 hb48 => ?_) 
          have h := h a46 H47 hb48
          refine GoOps.nil ?_
          refine Go.seq ?_
          refine Go.seq ?_
          refine Go.region rfl ?_
          refine GoOps.q (v := .int .i64 0) rfl rfl (by decide) (q_assign rfl) ?_
          refine GoOps.nil ?_
          refine Go.block ?_
          refine loop_go (fun ρ (s49 : Sl × Int) => ρ 1 = Sl.v p1 ∧ ρ 2 = Sl.v p2 ∧ ρ 7 = .pointer (some a8) ∧ ρ 8 = .pointer y16 ∧ ρ 10 = Sl.v s49.1 ∧ ρ 11 = .pointer (some a46) ∧ ρ 12 = .int .i64 s49.2) h ⟨e32_1, e32_2, e32_7, e32_8, rfl, rfl, rfl⟩ ?_
          clear h
          intro ρ s49 H52 again50 hE h hagain50
          obtain ⟨e51_1, e51_2, e51_7, e51_8, e51_10, e51_11, e51_12⟩ := hE
          refine Go.seq ?_
          refine Go.seq ?_
          refine Go.region rfl ?_
          refine GoOps.q (v := .int .i64 s49.2) rfl rfl (by decide) (q_move e51_12) ?_
          refine GoOps.q (v := .pointer (some (a8.add 1))) rfl rfl (by decide) (q_fieldAddr foff26_1 e51_7) ?_
          obtain ⟨x53, hx54, h⟩ := h
          refine GoOps.q (v := .int .i64 x53) rfl rfl (by decide) (q_load scalar3 rfl hx54) ?_
          refine GoOps.q (v := .bool (decide (s49.2 < x53))) rfl rfl (by decide) (q_lss rfl rfl) ?_
          refine GoOps.nil ?_
          rcases bor (decide (s49.2 < x53)) with hc55 | hc55
          · have h := h.1 hc55
            refine Go.condT (btT rfl hc55) ?_
            refine Go.skip ?_
            refine Go.seq ?_
            refine Go.block ?_
            refine Go.seq ?_
            refine join_go 1 (fun ρ (s56 : Addr) => ρ 1 = Sl.v p1 ∧ ρ 2 = Sl.v p2 ∧ ρ 7 = .pointer (some a8) ∧ ρ 8 = .pointer y16 ∧ ρ 10 = Sl.v s49.1 ∧ ρ 11 = .pointer (some a46) ∧ ρ 12 = .int .i64 s49.2 ∧ ρ 13 = .pointer (some s56)) h ?_ ?_ <;> clear h
            · intro s56 H58 ρ h hE
              obtain ⟨e59_1, e59_2, e59_7, e59_8, e59_10, e59_11, e59_12, e59_13⟩ := hE
              refine Go.seq ?_
              refine Go.region rfl ?_
              refine GoOps.q (v := Sl.v s49.1) rfl rfl (by decide) (q_move e59_10) ?_
              obtain ⟨x60, hx61, h⟩ := h
              refine GoOps.q (v := .agg ([.int .i64 x60.1, .int .i64 x60.2] : List Value).toArray) rfl rfl (by decide) (q_loadA aggr52 e59_13 hx61) ?_
              refine op_dst rfl rfl (by decide) (do_bs (ps := [(0, .agg ([.int .i64 x60.1, .int .i64 x60.2] : List Value).toArray)]) (zs := [.int .i64 0, .int .i64 0]) (cs := [.int .i64 x60.1, .int .i64 x60.2]) slice50 zero52 rfl rfl (by decide) (by decide) rfl (fillS_cat (tot := 2) (css := [[.int .i64 x60.1, .int .i64 x60.2]]) (.cons rfl rfl rfl (.nil rfl)) rfl) fun r62 H63 hb64 => ?_) 
              have h := h r62 H63 hb64
              refine op_dst rfl rfl (by decide) (do_append (zs := [.int .i64 0, .int .i64 0]) slice50 bytes52 (by decide) zero52 rfl rfl (by decide) rfl rfl Try.underlying50 rfl h fun r65 H66 h => ?_) 
              refine GoOps.q (v := Sl.v r65) rfl rfl (by decide) (q_assign rfl) ?_
              refine GoOps.nil ?_
              refine Go.region rfl ?_
              refine GoOps.q (v := .pointer (some (s56.add 0))) rfl rfl (by decide) (q_fieldAddr foff52_0 e59_13) ?_
              obtain ⟨x67, hx68, h⟩ := h
              refine GoOps.q (v := .int .i64 x67) rfl rfl (by decide) (q_load scalar3 rfl hx68) ?_
              obtain ⟨a69, ha70, h⟩ := h
              refine GoOps.q (v := .pointer (some a69)) rfl rfl (by decide) (q_idxA array22 ha70 e59_11 rfl) ?_
              obtain ⟨x71, hx72, h⟩ := h
              refine GoOps.q (v := .int .i64 x71) rfl rfl (by decide) (q_load scalar3 rfl hx72) ?_
              refine GoOps.q (v := .int .i64 (IntKind.wrap .i64 (x71 + 1))) rfl rfl (by decide) (q_add rfl rfl) ?_
              obtain ⟨a73, ha74, h⟩ := h
              refine GoOps.q (v := .pointer (some a73)) rfl rfl (by decide) (q_idxA array22 ha74 e59_11 rfl) ?_
              obtain ⟨q76b, q76o, q76c, q76e, hq76a, hq76b, hq76l, hq76v, h⟩ := h
              refine op_none rfl rfl (do_store (vs := [.int .i64 (IntKind.wrap .i64 (x71 + 1))]) size3 (pta rfl hq76a) rfl rfl rfl hq76v hq76b hq76l ?_) 
              refine GoOps.nil ?_
              refine Go.inBlock ?_
              refine Go.region rfl ?_
              refine GoOps.q (v := .int .i64 s49.2) rfl rfl (by decide) (q_move e59_12) ?_
              refine GoOps.q (v := .int .i64 (IntKind.wrap .i64 (s49.2 + 1))) rfl rfl (by decide) (q_add rfl rfl) ?_
              refine GoOps.q (v := .int .i64 (IntKind.wrap .i64 (s49.2 + 1))) rfl rfl (by decide) (q_assign rfl) ?_
              refine GoOps.nil ?_
              exact hagain50 _ _ _ h ⟨e59_1, e59_2, e59_7, e59_8, rfl, e59_11, rfl⟩
            · intro j57 hj57 h
              refine Go.draw mixed ?_
              refine plan_pure (i := 0) (d := 58) (S2 := 1) (v := Sl.v p1) rfl (by decide +kernel) rfl (q_move e51_1) ?_
              refine plan_pure (i := 1) (d := 59) (S2 := 3) (v := .int .i64 s49.2) rfl (by decide +kernel) rfl (q_move e51_12) ?_
              obtain ⟨a77, ha78, h⟩ := h
              refine plan_pure (i := 2) (d := 60) (S2 := 7) (v := .pointer (some a77)) rfl (by decide +kernel) rfl (q_idx slice23 ha78 rfl rfl) ?_
              obtain ⟨x79, hx80, h⟩ := h
              refine plan_load (i := 3) (d := 61) (S2 := 15) (v := .int .i64 x79) rfl (by decide +kernel) rfl (q_load scalar3 rfl hx80) ?_
              refine plan_pure (i := 5) (d := 63) (S2 := 47) (v := Sl.v p2) rfl (by decide +kernel) rfl (q_move e51_2) ?_
              refine plan_pure (i := 6) (d := 64) (S2 := 111) (v := .int .i64 s49.2) rfl (by decide +kernel) rfl (q_move e51_12) ?_
              obtain ⟨a81, ha82, h⟩ := h
              refine plan_pure (i := 7) (d := 65) (S2 := 239) (v := .pointer (some a81)) rfl (by decide +kernel) rfl (q_idx slice23 ha82 rfl rfl) ?_
              obtain ⟨x83, hx84, h⟩ := h
              refine plan_load (i := 8) (d := 66) (S2 := 495) (v := .int .i64 x83) rfl (by decide +kernel) rfl (q_load scalar3 rfl hx84) ?_
              refine plan_step (R := [4, 11]) (by decide +kernel) ⟨?_, ?_, trivial⟩
              · refine pstep_yes (S2 := 511) rfl (by decide +kernel) (by decide) rfl ?_
                refine do_call2 body11 (keelsonalike_Round_s _ _ _ _ h) rfl ?_
                rintro _ H85 ⟨y86, rfl, h⟩
                obtain ⟨hr87, h⟩ := h
                refine ⟨_, (.inr ⟨⟨_, _, rfl, rfl, q_load scalar3 rfl hr87⟩, _, rfl, .inl ⟨⟨[4], by decide +kernel, rfl⟩, rfl⟩⟩), ?_⟩
                refine plan_step (R := [9, 11]) (by decide +kernel) ⟨?_, ?_, trivial⟩
                · refine pstep_yes (S2 := 1023) rfl (by decide +kernel) (by decide) rfl ?_
                  refine do_call2 body11 (keelsonalike_Round_s _ _ _ _ h) rfl ?_
                  rintro _ H88 ⟨y89, rfl, h⟩
                  refine ⟨_, (.inl ⟨⟨[9], by decide +kernel, rfl⟩, rfl⟩), ?_⟩
                  refine plan_pure (i := 10) (d := 68) (S2 := 2047) (v := .agg ([.int .i64 y86, .int .i64 y89] : List Value).toArray) rfl (by decide +kernel) rfl (q_build (ps := [(0, .int .i64 y86), (1, .int .i64 y89)]) (cs := [.int .i64 y86, .int .i64 y89]) places52 zero52 rfl rfl rfl) ?_
                  refine plan_one (j := 11) (S2 := 4095) (by decide +kernel) rfl (by decide) rfl ?_
                  refine do_new zero52 rfl fun a90 H91 hb92 => ?_
                  have h := h a90 H91 hb92
                  refine ⟨_, rfl, ?_⟩
                  refine plan_one (j := 12) (S2 := 8191) (by decide +kernel) rfl (by decide) rfl ?_
                  obtain ⟨q94b, q94o, q94c, q94e, hq94a, hq94b, hq94l, hq94v, h⟩ := h
                  refine do_store (vs := [.int .i64 y86, .int .i64 y89]) size52 (pta rfl hq94a) rfl rfl rfl hq94v hq94b hq94l ?_
                  refine ⟨_, rfl, ?_⟩
                  refine plan_done (by decide +kernel) ?_
                  exact hj57 _ _ _ h ⟨e51_1, e51_2, e51_7, e51_8, e51_10, e51_11, e51_12, rfl⟩
                · refine pstep_yes (S2 := 2559) rfl (by decide +kernel) (by decide) rfl ?_
                  refine do_newT zero52 rfl fun b99 a98 hHb99 hTb99 hrb99 => ?_
                  refine ⟨_, (.inr ⟨⟨_, _, rfl, rfl, q_load scalar3 rfl hr87⟩, _, rfl, rfl⟩), ?_⟩
                  refine plan_one (j := 9) (S2 := 3071) (by decide +kernel) rfl (by decide) rfl ?_
                  refine do_call2 body11 (keelsonalike_Round_s _ _ _ _ h) rfl ?_
                  rintro _ H100 ⟨y101, rfl, h⟩
                  refine ⟨_, (.inl ⟨⟨[9], by decide +kernel, rfl⟩, rfl⟩), ?_⟩
                  refine plan_pure (i := 10) (d := 68) (S2 := 4095) (v := .agg ([.int .i64 y86, .int .i64 y101] : List Value).toArray) rfl (by decide +kernel) rfl (q_build (ps := [(0, .int .i64 y86), (1, .int .i64 y101)]) (cs := [.int .i64 y86, .int .i64 y101]) places52 zero52 rfl rfl rfl) ?_
                  refine plan_commit hTb99 fun hh103 => ?_
                  have h := h a98 _ ⟨b99, hh103, hrb99, rfl⟩
                  refine plan_one (j := 12) (S2 := 8191) (by decide +kernel) rfl (by decide) rfl ?_
                  obtain ⟨q105b, q105o, q105c, q105e, hq105a, hq105b, hq105l, hq105v, h⟩ := h
                  refine do_store (vs := [.int .i64 y86, .int .i64 y101]) size52 (pta rfl hq105a) rfl rfl rfl hq105v hq105b hq105l ?_
                  refine ⟨_, rfl, ?_⟩
                  refine plan_done (by decide +kernel) ?_
                  exact hj57 _ _ _ h ⟨e51_1, e51_2, e51_7, e51_8, e51_10, e51_11, e51_12, rfl⟩
              · refine pstep_yes (S2 := 2543) rfl (by decide +kernel) (by decide) rfl ?_
                refine do_newT zero52 rfl fun b110 a109 hHb110 hTb110 hrb110 => ?_
                refine ⟨_, (.inr ⟨⟨_, _, rfl, rfl, q_load scalar3 rfl hx84⟩, _, rfl, .inr ⟨⟨_, _, rfl, rfl, q_load scalar3 rfl hx80⟩, _, rfl, rfl⟩⟩), ?_⟩
                refine plan_one (j := 4) (S2 := 2559) (by decide +kernel) rfl (by decide) rfl ?_
                refine do_call2 body11 (keelsonalike_Round_s _ _ _ _ h) rfl ?_
                rintro _ H111 ⟨y112, rfl, h⟩
                obtain ⟨hr113, h⟩ := h
                refine ⟨_, (.inr ⟨⟨_, _, rfl, rfl, q_load scalar3 rfl hr113⟩, _, rfl, .inl ⟨⟨[4], by decide +kernel, rfl⟩, rfl⟩⟩), ?_⟩
                refine plan_one (j := 9) (S2 := 3071) (by decide +kernel) rfl (by decide) rfl ?_
                refine do_call2 body11 (keelsonalike_Round_s _ _ _ _ h) rfl ?_
                rintro _ H114 ⟨y115, rfl, h⟩
                refine ⟨_, (.inl ⟨⟨[9], by decide +kernel, rfl⟩, rfl⟩), ?_⟩
                refine plan_pure (i := 10) (d := 68) (S2 := 4095) (v := .agg ([.int .i64 y112, .int .i64 y115] : List Value).toArray) rfl (by decide +kernel) rfl (q_build (ps := [(0, .int .i64 y112), (1, .int .i64 y115)]) (cs := [.int .i64 y112, .int .i64 y115]) places52 zero52 rfl rfl rfl) ?_
                refine plan_commit hTb110 fun hh117 => ?_
                have h := h a109 _ ⟨b110, hh117, hrb110, rfl⟩
                refine plan_one (j := 12) (S2 := 8191) (by decide +kernel) rfl (by decide) rfl ?_
                obtain ⟨q119b, q119o, q119c, q119e, hq119a, hq119b, hq119l, hq119v, h⟩ := h
                refine do_store (vs := [.int .i64 y112, .int .i64 y115]) size52 (pta rfl hq119a) rfl rfl rfl hq119v hq119b hq119l ?_
                refine ⟨_, rfl, ?_⟩
                refine plan_done (by decide +kernel) ?_
                exact hj57 _ _ _ h ⟨e51_1, e51_2, e51_7, e51_8, e51_10, e51_11, e51_12, rfl⟩
          · have h := h.2 hc55
            refine Go.condF (btF rfl hc55) ?_
            refine Go.exit rfl ?_
            refine Go.seq ?_
            refine Go.region rfl ?_
            refine GoOps.q (v := .pointer y16) rfl rfl (by decide) (q_move e51_8) ?_
            refine GoOps.q (v := Sl.v s49.1) rfl rfl (by decide) (q_move e51_10) ?_
            refine call_dst rfl (by decide) body10 (usage_New_s _ _ _ _ h) rfl ?_
            rintro _ H120 ⟨y121, rfl, h⟩
            refine GoOps.q (v := .pointer y121) rfl rfl (by decide) (q_assign rfl) ?_
            refine GoOps.nil ?_
            refine Go.seq ?_
            refine Go.seq ?_
            refine Go.region rfl ?_
            refine GoOps.q (v := .pointer y121) rfl rfl (by decide) (q_move rfl) ?_
            refine GoOps.q (v := .bool (Option.isNone y121)) rfl rfl (by decide) (q_eqlPn Try.underlying32 rfl rfl) ?_
            refine GoOps.nil ?_
            rcases bor (Option.isNone y121) with hc122 | hc122
            · have h := h.1 hc122
              refine Go.condT (btT rfl hc122) ?_
              refine Go.seq ?_
              refine Go.region rfl ?_
              refine GoOps.q (v := .bool false) rfl rfl (by decide) (q_assign rfl) ?_
              refine GoOps.nil ?_
              exact Go.ret ⟨.inl rfl, _, _, DOk.nil, (resOk1 Try.results5 rfl), ⟨_, rfl, h⟩⟩
            · have h := h.2 hc122
              refine Go.condF (btF rfl hc122) ?_
              refine Go.skip ?_
              refine Go.seq ?_
              refine Go.region rfl ?_
              refine GoOps.q (v := .pointer y16) rfl rfl (by decide) (q_move e51_8) ?_
              refine GoOps.q (v := .pointer y121) rfl rfl (by decide) (q_move rfl) ?_
              refine call_dst rfl (by decide) body24 (usage_Table_Uses_s _ _ _ _ h) rfl ?_
              rintro _ H123 ⟨y124, rfl, h⟩
              refine call_dst rfl (by decide) body10 (usage_New_s _ _ _ _ h) rfl ?_
              rintro _ H125 ⟨y126, rfl, h⟩
              refine GoOps.q (v := .pointer y126) rfl rfl (by decide) (q_assign rfl) ?_
              refine GoOps.nil ?_
              refine Go.seq ?_
              refine Go.seq ?_
              refine Go.region rfl ?_
              refine GoOps.q (v := .pointer y126) rfl rfl (by decide) (q_move rfl) ?_
              refine GoOps.q (v := .bool (Option.isNone y126)) rfl rfl (by decide) (q_eqlPn Try.underlying32 rfl rfl) ?_
              refine GoOps.nil ?_
              rcases bor (Option.isNone y126) with hc127 | hc127
              · have h := h.1 hc127
                refine Go.condT (btT rfl hc127) ?_
                refine Go.seq ?_
                refine Go.region rfl ?_
                refine GoOps.q (v := .bool false) rfl rfl (by decide) (q_assign rfl) ?_
                refine GoOps.nil ?_
                exact Go.ret ⟨.inl rfl, _, _, DOk.nil, (resOk1 Try.results5 rfl), ⟨_, rfl, h⟩⟩
              · have h := h.2 hc127
                refine Go.condF (btF rfl hc127) ?_
                refine Go.skip ?_
                refine Go.seq ?_
                refine Go.draw mixed ?_
                refine plan_pure (i := 0) (d := 90) (S2 := 1) (v := .pointer y121) rfl (by decide +kernel) rfl (q_move rfl) ?_
                obtain ⟨a128, ha129, h⟩ := h
                refine plan_pure (i := 2) (d := 92) (S2 := 5) (v := .pointer (some a128)) rfl (by decide +kernel) rfl (q_idxA array22 ha129 e51_11 rfl) ?_
                obtain ⟨x130, hx131, h⟩ := h
                refine plan_load (i := 3) (d := 93) (S2 := 13) (v := .int .i64 x130) rfl (by decide +kernel) rfl (q_load scalar3 rfl hx131) ?_
                refine plan_one (j := 1) (S2 := 15) (by decide +kernel) rfl (by decide) rfl ?_
                refine do_call2 body15 (usage_Table_Free_s _ _ _ h) rfl ?_
                rintro _ H132 ⟨y133, rfl, h⟩
                obtain ⟨hr134, h⟩ := h
                refine ⟨_, (.inr ⟨⟨_, _, rfl, rfl, q_load scalar3 rfl hr134⟩, _, rfl, rfl⟩), ?_⟩
                refine plan_pure (i := 4) (d := 94) (S2 := 31) (v := .bool (y133 == x130)) rfl (by decide +kernel) rfl (q_eql rfl rfl) ?_
                refine plan_pure (i := 5) (d := 95) (S2 := 63) (v := .bool (y133 == x130)) rfl (by decide +kernel) rfl (q_move rfl) ?_
                refine join_plan 8191 [10, 3] (fun ρ (s136 : Bool) => ρ 10 = Sl.v s49.1 ∧ ρ 11 = .pointer (some a46) ∧ ρ 15 = .pointer y126 ∧ ρ 102 = .bool s136) h ?_ ?_ <;> clear h
                · intro s136 H138 ρ h hE
                  obtain ⟨e139_10, e139_11, e139_15, e139_102⟩ := hE
                  refine plan_pure (i := 13) (d := 103) (S2 := 16383) (v := .bool s136) rfl (by decide +kernel) rfl (q_move e139_102) ?_
                  refine join_plan 524287 [10, 3] (fun ρ (s141 : Bool) => ρ 11 = .pointer (some a46) ∧ ρ 15 = .pointer y126 ∧ ρ 108 = .bool s141) h ?_ ?_ <;> clear h
                  · intro s141 H143 ρ h hE
                    obtain ⟨e144_11, e144_15, e144_108⟩ := hE
                    refine plan_pure (i := 19) (d := 109) (S2 := 1048575) (v := .bool s141) rfl (by decide +kernel) rfl (q_move e144_108) ?_
                    refine join_plan 134217727 [24, 10, 3] (fun ρ (s146 : Bool) => ρ 11 = .pointer (some a46) ∧ ρ 15 = .pointer y126 ∧ ρ 116 = .bool s146) h ?_ ?_ <;> clear h
                    · intro s146 H148 ρ h hE
                      obtain ⟨e149_11, e149_15, e149_116⟩ := hE
                      refine plan_pure (i := 27) (d := 117) (S2 := 268435455) (v := .bool s146) rfl (by decide +kernel) rfl (q_move e149_116) ?_
                      refine join_plan 137438953471 [33, 31, 24, 10, 3] (fun ρ (s151 : Bool) => ρ 126 = .bool s151) h ?_ ?_ <;> clear h
                      · intro s151 H153 ρ h hE
                        have e154_126 := hE
                        refine plan_pure (i := 37) (d := 127) (S2 := 274877906943) (v := .bool s151) rfl (by decide +kernel) rfl (q_move e154_126) ?_
                        refine join_plan 1099511627775 [33, 31, 24, 10, 3] (fun ρ (s156 : Bool) => ρ 129 = .bool s156) h ?_ ?_ <;> clear h
                        · intro s156 H158 ρ h hE
                          have e159_129 := hE
                          refine plan_pure (i := 40) (d := 6) (S2 := 2199023255551) (v := .bool s156) rfl (by decide +kernel) rfl (q_assign e159_129) ?_
                          refine plan_done (by decide +kernel) ?_
                          exact Go.ret ⟨.inl rfl, _, _, DOk.nil, (resOk1 Try.results5 rfl), ⟨_, rfl, h⟩⟩
                        · intro j157 hj157 h
                          rcases bor s151 with hc155 | hc155
                          · have h := h.1 hc155
                            refine plan_one (j := 38) (S2 := 549755813887) (by decide +kernel) rfl (by decide) (want_yes rfl rfl rfl hc155) ?_
                            refine do_call2 body7 (keelsonlaw12_awake_s _ _ h) rfl ?_
                            rintro _ H160 ⟨y161, rfl, h⟩
                            refine ⟨_, (.inl ⟨⟨[34, 35, 36, 37, 38], by decide +kernel, rfl⟩, .inl ⟨⟨[34, 35, 36, 37, 38], by decide +kernel, rfl⟩, .inl ⟨⟨[25, 26, 27, 29, 37, 38], by decide +kernel, rfl⟩, .inl ⟨⟨[11, 12, 13, 17, 19, 21, 27, 29, 37, 38], by decide +kernel, rfl⟩, .inl ⟨⟨[4, 5, 7, 13, 17, 19, 21, 27, 29, 37, 38], by decide +kernel, rfl⟩, rfl⟩⟩⟩⟩⟩), ?_⟩
                            refine plan_pure (i := 39) (d := 129) (S2 := 1099511627775) (v := .bool y161) rfl (by decide +kernel) rfl (q_pickT (btT rfl hc155) rfl) ?_
                            refine plan_weaken (L2 := [33, 31, 24, 10, 3]) (by decide) ?_
                            exact hj157 _ _ _ h rfl
                          · have h := h.2 hc155
                            refine plan_skip (i := 38) (d := 128) (S2 := 549755813887) rfl (by decide +kernel) (want_no rfl rfl rfl hc155) ?_
                            refine plan_pure (i := 39) (d := 129) (S2 := 1099511627775) (v := .bool false) rfl (by decide +kernel) rfl (q_pickF (btF rfl hc155) rfl) ?_
                            exact hj157 _ _ _ h rfl
                      · intro j152 hj152 h
                        rcases bor s146 with hc150 | hc150
                        · have h := h.1 hc150
                          refine plan_pure (i := 28) (d := 118) (S2 := 536870911) (v := .pointer y126) rfl (by decide +kernel) (want_yes rfl rfl rfl hc150) (q_move e149_15) ?_
                          obtain ⟨a162, ha163, h⟩ := h
                          refine plan_pure (i := 30) (d := 120) (S2 := 1610612735) (v := .pointer (some a162)) rfl (by decide +kernel) (want_yes rfl rfl rfl hc150) (q_idxA array22 ha163 e149_11 rfl) ?_
                          obtain ⟨x164, hx165, h⟩ := h
                          refine plan_load (i := 31) (d := 121) (S2 := 3758096383) (v := .int .i64 x164) rfl (by decide +kernel) (want_yes rfl rfl rfl hc150) (q_load scalar3 rfl hx165) ?_
                          obtain ⟨a166, ha167, h⟩ := h
                          refine plan_pure (i := 32) (d := 122) (S2 := 8053063679) (v := .pointer (some a166)) rfl (by decide +kernel) (want_yes rfl rfl rfl hc150) (q_idxA array22 ha167 e149_11 rfl) ?_
                          obtain ⟨x168, hx169, h⟩ := h
                          refine plan_load (i := 33) (d := 123) (S2 := 16642998271) (v := .int .i64 x168) rfl (by decide +kernel) (want_yes rfl rfl rfl hc150) (q_load scalar3 rfl hx169) ?_
                          refine plan_pure (i := 34) (d := 124) (S2 := 33822867455) (v := .int .i64 (IntKind.wrap .i64 (x164 + x168))) rfl (by decide +kernel) (want_yes rfl rfl rfl hc150) (q_add rfl rfl) ?_
                          refine plan_one (j := 29) (S2 := 34359738367) (by decide +kernel) rfl (by decide) (want_yes rfl rfl rfl hc150) ?_
                          refine do_call2 body15 (usage_Table_Free_s _ _ _ h) rfl ?_
                          rintro _ H170 ⟨y171, rfl, h⟩
                          obtain ⟨hr172, h⟩ := h
                          obtain ⟨hr173, h⟩ := h
                          refine ⟨_, (.inr ⟨⟨_, _, rfl, rfl, q_load scalar3 rfl hr172⟩, _, rfl, .inr ⟨⟨_, _, rfl, rfl, q_load scalar3 rfl hr173⟩, _, rfl, .inl ⟨⟨[25, 26, 27, 29], by decide +kernel, rfl⟩, .inl ⟨⟨[11, 12, 13, 17, 19, 21, 27, 29], by decide +kernel, rfl⟩, .inl ⟨⟨[4, 5, 7, 13, 17, 19, 21, 27, 29], by decide +kernel, rfl⟩, rfl⟩⟩⟩⟩⟩), ?_⟩
                          refine plan_pure (i := 35) (d := 125) (S2 := 68719476735) (v := .bool (y171 == (IntKind.wrap .i64 (x164 + x168)))) rfl (by decide +kernel) (want_yes rfl rfl rfl hc150) (q_eql rfl rfl) ?_
                          refine plan_pure (i := 36) (d := 126) (S2 := 137438953471) (v := .bool (y171 == (IntKind.wrap .i64 (x164 + x168)))) rfl (by decide +kernel) rfl (q_pickT (btT rfl hc150) rfl) ?_
                          refine plan_weaken (L2 := [33, 31, 24, 10, 3]) (by decide) ?_
                          exact hj152 _ _ _ h rfl
                        · have h := h.2 hc150
                          refine plan_skip (i := 28) (d := 118) (S2 := 536870911) rfl (by decide +kernel) (want_no rfl rfl rfl hc150) ?_
                          refine plan_skip (i := 29) (d := 119) (S2 := 1073741823) rfl (by decide +kernel) (want_no rfl rfl rfl hc150) ?_
                          refine plan_skip (i := 30) (d := 120) (S2 := 2147483647) rfl (by decide +kernel) (want_no rfl rfl rfl hc150) ?_
                          refine plan_skip (i := 31) (d := 121) (S2 := 4294967295) rfl (by decide +kernel) (want_no rfl rfl rfl hc150) ?_
                          refine plan_skip (i := 32) (d := 122) (S2 := 8589934591) rfl (by decide +kernel) (want_no rfl rfl rfl hc150) ?_
                          refine plan_skip (i := 33) (d := 123) (S2 := 17179869183) rfl (by decide +kernel) (want_no rfl rfl rfl hc150) ?_
                          refine plan_skip (i := 34) (d := 124) (S2 := 34359738367) rfl (by decide +kernel) (want_no rfl rfl rfl hc150) ?_
                          refine plan_skip (i := 35) (d := 125) (S2 := 68719476735) rfl (by decide +kernel) (want_no rfl rfl rfl hc150) ?_
                          refine plan_pure (i := 36) (d := 126) (S2 := 137438953471) (v := .bool false) rfl (by decide +kernel) rfl (q_pickF (btF rfl hc150) rfl) ?_
                          refine plan_weaken (L2 := [33, 31, 24, 10, 3]) (by decide) ?_
                          exact hj152 _ _ _ h rfl
                    · intro j147 hj147 h
                      rcases bor s141 with hc145 | hc145
                      · have h := h.1 hc145
                        refine plan_pure (i := 20) (d := 110) (S2 := 2097151) (v := .pointer y126) rfl (by decide +kernel) (want_yes rfl rfl rfl hc145) (q_move e144_15) ?_
                        obtain ⟨a174, ha175, h⟩ := h
                        refine plan_pure (i := 23) (d := 113) (S2 := 10485759) (v := .pointer (some a174)) rfl (by decide +kernel) (want_yes rfl rfl rfl hc145) (q_idxA array22 ha175 e144_11 rfl) ?_
                        obtain ⟨x176, hx177, h⟩ := h
                        refine plan_load (i := 24) (d := 114) (S2 := 27262975) (v := .int .i64 x176) rfl (by decide +kernel) (want_yes rfl rfl rfl hc145) (q_load scalar3 rfl hx177) ?_
                        refine plan_one (j := 21) (S2 := 29360127) (by decide +kernel) rfl (by decide) (want_yes rfl rfl rfl hc145) ?_
                        refine do_call2 body21 (usage_Table_Release_s _ _ _ h) rfl ?_
                        rintro _ H178 ⟨y179, rfl, h⟩
                        obtain ⟨hr180, h⟩ := h
                        refine ⟨_, (.inr ⟨⟨_, _, rfl, rfl, q_load scalar3 rfl hr180⟩, _, rfl, .inl ⟨⟨[11, 12, 13, 17, 19, 21], by decide +kernel, rfl⟩, .inl ⟨⟨[4, 5, 7, 13, 17, 19, 21], by decide +kernel, rfl⟩, rfl⟩⟩⟩), ?_⟩
                        refine plan_pure (i := 22) (d := 112) (S2 := 33554431) (v := .int .i64 (y179.len : Int)) rfl (by decide +kernel) (want_yes rfl rfl rfl hc145) (q_len Try.underlying23 rfl (ls1 rfl)) ?_
                        refine plan_pure (i := 25) (d := 115) (S2 := 67108863) (v := .bool ((y179.len : Int) == x176)) rfl (by decide +kernel) (want_yes rfl rfl rfl hc145) (q_eql rfl rfl) ?_
                        refine plan_pure (i := 26) (d := 116) (S2 := 134217727) (v := .bool ((y179.len : Int) == x176)) rfl (by decide +kernel) rfl (q_pickT (btT rfl hc145) rfl) ?_
                        refine plan_weaken (L2 := [24, 10, 3]) (by decide) ?_
                        exact hj147 _ _ _ h ⟨e144_11, e144_15, rfl⟩
                      · have h := h.2 hc145
                        refine plan_skip (i := 20) (d := 110) (S2 := 2097151) rfl (by decide +kernel) (want_no rfl rfl rfl hc145) ?_
                        refine plan_skip (i := 21) (d := 111) (S2 := 4194303) rfl (by decide +kernel) (want_no rfl rfl rfl hc145) ?_
                        refine plan_skip (i := 22) (d := 112) (S2 := 8388607) rfl (by decide +kernel) (want_no rfl rfl rfl hc145) ?_
                        refine plan_skip (i := 23) (d := 113) (S2 := 16777215) rfl (by decide +kernel) (want_no rfl rfl rfl hc145) ?_
                        refine plan_skip (i := 24) (d := 114) (S2 := 33554431) rfl (by decide +kernel) (want_no rfl rfl rfl hc145) ?_
                        refine plan_skip (i := 25) (d := 115) (S2 := 67108863) rfl (by decide +kernel) (want_no rfl rfl rfl hc145) ?_
                        refine plan_pure (i := 26) (d := 116) (S2 := 134217727) (v := .bool false) rfl (by decide +kernel) rfl (q_pickF (btF rfl hc145) rfl) ?_
                        refine plan_weaken (L2 := [24, 10, 3]) (by decide) ?_
                        exact hj147 _ _ _ h ⟨e144_11, e144_15, rfl⟩
                  · intro j142 hj142 h
                    rcases bor s136 with hc140 | hc140
                    · have h := h.1 hc140
                      refine plan_pure (i := 14) (d := 104) (S2 := 32767) (v := .pointer y126) rfl (by decide +kernel) (want_yes rfl rfl rfl hc140) (q_move e139_15) ?_
                      refine plan_pure (i := 16) (d := 106) (S2 := 98303) (v := Sl.v s49.1) rfl (by decide +kernel) (want_yes rfl rfl rfl hc140) (q_move e139_10) ?_
                      refine plan_one (j := 15) (S2 := 131071) (by decide +kernel) rfl (by decide) (want_yes rfl rfl rfl hc140) ?_
                      refine do_call2 body24 (usage_Table_Uses_s _ _ _ _ h) rfl ?_
                      rintro _ H181 ⟨y182, rfl, h⟩
                      refine ⟨_, (.inl ⟨⟨[11, 12, 13, 15], by decide +kernel, rfl⟩, .inl ⟨⟨[4, 5, 7, 13, 15], by decide +kernel, rfl⟩, rfl⟩⟩), ?_⟩
                      refine plan_one (j := 17) (S2 := 262143) (by decide +kernel) rfl (by decide) (want_yes rfl rfl rfl hc140) ?_
                      refine do_call2 body26 (keelsonalike_Uses_s _ _ _ _ h) rfl ?_
                      rintro _ H183 ⟨y184, rfl, h⟩
                      refine ⟨_, rfl, ?_⟩
                      refine plan_pure (i := 18) (d := 108) (S2 := 524287) (v := .bool y184) rfl (by decide +kernel) rfl (q_pickT (btT rfl hc140) rfl) ?_
                      refine plan_weaken (L2 := [10, 3]) (by decide) ?_
                      exact hj142 _ _ _ h ⟨e139_11, e139_15, rfl⟩
                    · have h := h.2 hc140
                      refine plan_skip (i := 14) (d := 104) (S2 := 32767) rfl (by decide +kernel) (want_no rfl rfl rfl hc140) ?_
                      refine plan_skip (i := 15) (d := 105) (S2 := 65535) rfl (by decide +kernel) (want_no rfl rfl rfl hc140) ?_
                      refine plan_skip (i := 16) (d := 106) (S2 := 131071) rfl (by decide +kernel) (want_no rfl rfl rfl hc140) ?_
                      refine plan_skip (i := 17) (d := 107) (S2 := 262143) rfl (by decide +kernel) (want_no rfl rfl rfl hc140) ?_
                      refine plan_pure (i := 18) (d := 108) (S2 := 524287) (v := .bool false) rfl (by decide +kernel) rfl (q_pickF (btF rfl hc140) rfl) ?_
                      exact hj142 _ _ _ h ⟨e139_11, e139_15, rfl⟩
                · intro j137 hj137 h
                  rcases bor (y133 == x130) with hc135 | hc135
                  · have h := h.1 hc135
                    refine plan_pure (i := 6) (d := 96) (S2 := 127) (v := .pointer y121) rfl (by decide +kernel) (want_yes rfl rfl rfl hc135) (q_move rfl) ?_
                    obtain ⟨a185, ha186, h⟩ := h
                    refine plan_pure (i := 9) (d := 99) (S2 := 639) (v := .pointer (some a185)) rfl (by decide +kernel) (want_yes rfl rfl rfl hc135) (q_idxA array22 ha186 e51_11 rfl) ?_
                    obtain ⟨x187, hx188, h⟩ := h
                    refine plan_load (i := 10) (d := 100) (S2 := 1663) (v := .int .i64 x187) rfl (by decide +kernel) (want_yes rfl rfl rfl hc135) (q_load scalar3 rfl hx188) ?_
                    refine plan_one (j := 7) (S2 := 1791) (by decide +kernel) rfl (by decide) (want_yes rfl rfl rfl hc135) ?_
                    refine do_call2 body25 (keelsonlaw12_sealed_s _ _ _ _ h) rfl ?_
                    rintro _ H189 ⟨y190, rfl, h⟩
                    obtain ⟨hr191, h⟩ := h
                    refine ⟨_, (.inr ⟨⟨_, _, rfl, rfl, q_load scalar3 rfl hr191⟩, _, rfl, .inl ⟨⟨[4, 5, 7], by decide +kernel, rfl⟩, rfl⟩⟩), ?_⟩
                    refine plan_pure (i := 8) (d := 98) (S2 := 2047) (v := .int .i64 (y190.len : Int)) rfl (by decide +kernel) (want_yes rfl rfl rfl hc135) (q_len Try.underlying23 rfl (ls1 rfl)) ?_
                    refine plan_pure (i := 11) (d := 101) (S2 := 4095) (v := .bool ((y190.len : Int) == x187)) rfl (by decide +kernel) (want_yes rfl rfl rfl hc135) (q_eql rfl rfl) ?_
                    refine plan_pure (i := 12) (d := 102) (S2 := 8191) (v := .bool ((y190.len : Int) == x187)) rfl (by decide +kernel) rfl (q_pickT (btT rfl hc135) rfl) ?_
                    refine plan_weaken (L2 := [10, 3]) (by decide) ?_
                    exact hj137 _ _ _ h ⟨e51_10, e51_11, rfl, rfl⟩
                  · have h := h.2 hc135
                    refine plan_skip (i := 6) (d := 96) (S2 := 127) rfl (by decide +kernel) (want_no rfl rfl rfl hc135) ?_
                    refine plan_skip (i := 7) (d := 97) (S2 := 255) rfl (by decide +kernel) (want_no rfl rfl rfl hc135) ?_
                    refine plan_skip (i := 8) (d := 98) (S2 := 511) rfl (by decide +kernel) (want_no rfl rfl rfl hc135) ?_
                    refine plan_skip (i := 9) (d := 99) (S2 := 1023) rfl (by decide +kernel) (want_no rfl rfl rfl hc135) ?_
                    refine plan_skip (i := 10) (d := 100) (S2 := 2047) rfl (by decide +kernel) (want_no rfl rfl rfl hc135) ?_
                    refine plan_skip (i := 11) (d := 101) (S2 := 4095) rfl (by decide +kernel) (want_no rfl rfl rfl hc135) ?_
                    refine plan_pure (i := 12) (d := 102) (S2 := 8191) (v := .bool false) rfl (by decide +kernel) rfl (q_pickF (btF rfl hc135) rfl) ?_
                    refine plan_weaken (L2 := [10, 3]) (by decide) ?_
                    exact hj137 _ _ _ h ⟨e51_10, e51_11, rfl, rfl⟩
      · intro j30 hj30 h
        rcases bor s24 with hc28 | hc28
        · have h := h.1 hc28
          refine no_dst (want_no rfl rfl rfl hc28) rfl (by decide) ?_
          refine no_dst (want_no rfl rfl rfl hc28) rfl (by decide) ?_
          refine no_dst (want_no rfl rfl rfl hc28) rfl (by decide) ?_
          refine no_dst (want_no rfl rfl rfl hc28) rfl (by decide) ?_
          refine no_dst (want_no rfl rfl rfl hc28) rfl (by decide) ?_
          refine GoOps.q (v := .bool true) rfl rfl (by decide) (q_pickT (btT rfl hc28) rfl) ?_
          exact hj30 true _ _ h (by exact ⟨e27_1, e27_2, e27_7, e27_8, e27_9, rfl⟩)
        · have h := h.2 hc28
          refine GoOps.q (v := Sl.v p2) (want_yes rfl rfl rfl hc28) rfl (by decide) (q_move e27_2) ?_
          refine GoOps.q (v := .int .i64 (p2.len : Int)) (want_yes rfl rfl rfl hc28) rfl (by decide) (q_len Try.underlying23 rfl (ls1 rfl)) ?_
          refine GoOps.q (v := .pointer (some (a8.add 1))) (want_yes rfl rfl rfl hc28) rfl (by decide) (q_fieldAddr foff26_1 e27_7) ?_
          obtain ⟨x192, hx193, h⟩ := h
          refine GoOps.q (v := .int .i64 x192) (want_yes rfl rfl rfl hc28) rfl (by decide) (q_load scalar3 rfl hx193) ?_
          refine GoOps.q (v := .bool (decide ((p2.len : Int) < x192))) (want_yes rfl rfl rfl hc28) rfl (by decide) (q_lss rfl rfl) ?_
          refine GoOps.q (v := .bool (decide ((p2.len : Int) < x192))) rfl rfl (by decide) (q_pickF (btF rfl hc28) rfl) ?_
          exact hj30 (decide ((p2.len : Int) < x192)) _ _ h (by exact ⟨e27_1, e27_2, e27_7, e27_8, e27_9, rfl⟩)
    · intro j25 hj25 h
      rcases bor s19 with hc23 | hc23
      · have h := h.1 hc23
        refine no_dst (want_no rfl rfl rfl hc23) rfl (by decide) ?_
        refine no_dst (want_no rfl rfl rfl hc23) rfl (by decide) ?_
        refine no_dst (want_no rfl rfl rfl hc23) rfl (by decide) ?_
        refine no_dst (want_no rfl rfl rfl hc23) rfl (by decide) ?_
        refine no_dst (want_no rfl rfl rfl hc23) rfl (by decide) ?_
        refine GoOps.q (v := .bool true) rfl rfl (by decide) (q_pickT (btT rfl hc23) rfl) ?_
        exact hj25 true _ _ h (by exact ⟨e22_1, e22_2, e22_7, e22_8, e22_9, rfl⟩)
      · have h := h.2 hc23
        refine GoOps.q (v := Sl.v p1) (want_yes rfl rfl rfl hc23) rfl (by decide) (q_move e22_1) ?_
        refine GoOps.q (v := .int .i64 (p1.len : Int)) (want_yes rfl rfl rfl hc23) rfl (by decide) (q_len Try.underlying23 rfl (ls1 rfl)) ?_
        refine GoOps.q (v := .pointer (some (a8.add 1))) (want_yes rfl rfl rfl hc23) rfl (by decide) (q_fieldAddr foff26_1 e22_7) ?_
        obtain ⟨x194, hx195, h⟩ := h
        refine GoOps.q (v := .int .i64 x194) (want_yes rfl rfl rfl hc23) rfl (by decide) (q_load scalar3 rfl hx195) ?_
        refine GoOps.q (v := .bool (decide ((p1.len : Int) < x194))) (want_yes rfl rfl rfl hc23) rfl (by decide) (q_lss rfl rfl) ?_
        refine GoOps.q (v := .bool (decide ((p1.len : Int) < x194))) rfl rfl (by decide) (q_pickF (btF rfl hc23) rfl) ?_
        exact hj25 (decide ((p1.len : Int) < x194)) _ _ h (by exact ⟨e22_1, e22_2, e22_7, e22_8, e22_9, rfl⟩)
  · intro j20 hj20 h
    rcases bor (y17 != 0) with hc18 | hc18
    · have h := h.1 hc18
      refine no_dst (want_no rfl rfl rfl hc18) rfl (by decide) ?_
      refine no_dst (want_no rfl rfl rfl hc18) rfl (by decide) ?_
      refine GoOps.q (v := .bool true) rfl rfl (by decide) (q_pickT (btT rfl hc18) rfl) ?_
      exact hj20 true _ _ h (by exact ⟨rfl, rfl, rfl, rfl, rfl, rfl⟩)
    · have h := h.2 hc18
      refine GoOps.q (v := .pointer y16) (want_yes rfl rfl rfl hc18) rfl (by decide) (q_move rfl) ?_
      refine GoOps.q (v := .bool (Option.isNone y16)) (want_yes rfl rfl rfl hc18) rfl (by decide) (q_eqlPn Try.underlying28 rfl rfl) ?_
      refine GoOps.q (v := .bool (Option.isNone y16)) rfl rfl (by decide) (q_pickF (btF rfl hc18) rfl) ?_
      exact hj20 (Option.isNone y16) _ _ h (by exact ⟨rfl, rfl, rfl, rfl, rfl, rfl⟩)

/-- keelson.keelsonref1.Within -/
def keelsonref1_Within (p0 : Int) (p1 : Int) (p2 : Int) (H : PH) (Q : Bool → PH → Prop) : Prop :=
  mJoin (fun (s2 : Bool) (H4 : PH) =>
  Q s2 H4)
  fun j3 =>
  mIf (decide (p1 ≤ p0))
  (j3 (decide (p0 ≤ p2)) H)
  (j3 false H)

set_option maxRecDepth 20000 in
set_option maxHeartbeats 1000000 in
theorem keelsonref1_Within_s (p0 : Int) (p1 : Int) (p2 : Int) (H : PH) (Q : Bool → PH → Prop) (h : keelsonref1_Within p0 p1 p2 H Q) :
    CallsH Try.prog 48 #[.int .i64 p0, .int .i64 p1, .int .i64 p2] H (fun v H' => ∃ (r0 : Bool), v = .bool r0 ∧ Q r0 H') := by
  unfold keelsonref1_Within at h
  refine callsH_of_go Try.func48 rfl Try.ntmps48 (Nat.le_of_ble_eq_true rfl) ?_
  refine Go.seq ?_
  refine Go.region rfl ?_
  refine GoOps.q (v := .bool false) rfl rfl (by decide) (q_assign rfl) ?_
  refine GoOps.nil ?_
  refine Go.seq ?_
  refine Go.region rfl ?_
  refine GoOps.q (v := .int .i64 p0) rfl rfl (by decide) (q_move rfl) ?_
  refine GoOps.q (v := .int .i64 p1) rfl rfl (by decide) (q_move rfl) ?_
  refine GoOps.q (v := .bool (decide (p1 ≤ p0))) rfl rfl (by decide) (q_geq rfl rfl) ?_
  refine GoOps.q (v := .bool (decide (p1 ≤ p0))) rfl rfl (by decide) (q_move rfl) ?_
  refine join_ops 4 (fun ρ (s2 : Bool) => ρ 14 = .bool s2) h ?_ ?_ <;> clear h
  · intro s2 H4 ρ h hE
    have e5_14 := hE
    refine GoOps.q (v := .bool s2) rfl rfl (by decide) (q_assign e5_14) ?_
    refine GoOps.nil ?_
    exact Go.ret ⟨.inl rfl, _, _, DOk.nil, (resOk1 Try.results48 rfl), ⟨_, rfl, h⟩⟩
  · intro j3 hj3 h
    rcases bor (decide (p1 ≤ p0)) with hc1 | hc1
    · have h := h.1 hc1
      refine GoOps.q (v := .int .i64 p0) (want_yes rfl rfl rfl hc1) rfl (by decide) (q_move rfl) ?_
      refine GoOps.q (v := .int .i64 p2) (want_yes rfl rfl rfl hc1) rfl (by decide) (q_move rfl) ?_
      refine GoOps.q (v := .bool (decide (p0 ≤ p2))) (want_yes rfl rfl rfl hc1) rfl (by decide) (q_leq rfl rfl) ?_
      refine GoOps.q (v := .bool (decide (p0 ≤ p2))) rfl rfl (by decide) (q_pickT (btT rfl hc1) rfl) ?_
      exact hj3 (decide (p0 ≤ p2)) _ _ h (by exact rfl)
    · have h := h.2 hc1
      refine no_dst (want_no rfl rfl rfl hc1) rfl (by decide) ?_
      refine no_dst (want_no rfl rfl rfl hc1) rfl (by decide) ?_
      refine no_dst (want_no rfl rfl rfl hc1) rfl (by decide) ?_
      refine GoOps.q (v := .bool false) rfl rfl (by decide) (q_pickF (btF rfl hc1) rfl) ?_
      exact hj3 false _ _ h (by exact rfl)

/-- keelson.keelsonref11.NewTable -/
def keelsonref11_NewTable (p0 : (Int × Int × Int)) (p1 : Sl) (H : PH) (Q : Option Addr → PH → Prop) : Prop :=
  mNew H (row [.int .i64 p0.1, .int .i64 p0.2.1, .int .i64 p0.2.2] 26) fun a1 H2 =>
  mJoin (fun (s4 : Option Addr) (H6 : PH) =>
  mIf ((p1.len : Int) == 0)
  (Q s4 H6)
  (mLd (.int .i64) H6 (a1.add 1) fun x9 =>
  mIf ((p1.len : Int) != x9)
  (Q none H6)
  (mLoop (fun (s12 : Int) (H15 : PH) (again13 : Int → PH → Prop) =>
  mIf (decide (s12 < (p1.len : Int)))
  (mIdx p1 2 s12 fun a17 =>
  mLd (.int .i64) H15 (a17.add 0) fun x19 =>
  keelsonref1_Within x19 0 2 H15 fun y22 H21 =>
  mJoin (fun (s24 : Bool) (H26 : PH) =>
  mIf s24
  (Q none H26)
  (mNil s4 fun a29 =>
  mLd Sl.v H26 (a29.add 3) fun x31 =>
  mIdx p1 2 s12 fun a33 =>
  mLdR (fun (x : (Int × Int)) => [.int .i64 x.1, .int .i64 x.2]) H26 a33 2 fun x35 =>
  mIdx x31 2 s12 fun a37 =>
  mSt H26 a37 ([.int .i64 x35.1, .int .i64 x35.2]) fun H39 =>
  again13 (IntKind.wrap .i64 (s12 + 1)) H39))
  fun j25 =>
  mIf (!y22)
  (j25 true H21)
  (mIdx p1 2 s12 fun a41 =>
  mLd (.int .i64) H21 (a41.add 1) fun x43 =>
  keelsonref1_Within x43 0 2147483647 H21 fun y46 H45 =>
  j25 (!y46) H45))
  (Q s4 H15))
  0 H6)))
  fun j5 =>
  mLdR (fun (x : (Int × Int × Int)) => [.int .i64 x.1, .int .i64 x.2.1, .int .i64 x.2.2]) H2 a1 3 fun x47 =>
  mLd (.int .i64) H2 (a1.add 1) fun x49 =>
  mLd (.int .i64) H2 (a1.add 1) fun x51 =>
  mBoth (MkOk 16 x49 x49) <|
  mBoth (MkOk 8 x51 x51) <|
  mNewSI H2 (row (zeros (x49 : Int).toNat [.int .i64 0, .int .i64 0]) 52) x49 x49 fun r55 H56 =>
  mSame H56 (a1.add 1) (.int .i64 x51) <|
  mSameA H56 a1 3 ([.int .i64 x47.1, .int .i64 x47.2.1, .int .i64 x47.2.2]) <|
  mNewSI H56 (row (zeros (x51 : Int).toNat [.int .i64 0]) 3) x51 x51 fun r60 H61 =>
  mSameA H61 a1 3 ([.int .i64 x47.1, .int .i64 x47.2.1, .int .i64 x47.2.2]) <|
  mNew H61 (row [.int .i64 x47.1, .int .i64 x47.2.1, .int .i64 x47.2.2, Sl.v r55, Sl.v r60] 81) fun a64 H65 =>
  j5 (some a64) H65

set_option maxRecDepth 20000 in
set_option maxHeartbeats 1000000 in
theorem keelsonref11_NewTable_s (p0 : (Int × Int × Int)) (p1 : Sl) (H : PH) (Q : Option Addr → PH → Prop) (h : keelsonref11_NewTable p0 p1 H Q) :
    CallsH Try.prog 27 #[.agg ([.int .i64 p0.1, .int .i64 p0.2.1, .int .i64 p0.2.2] : List Value).toArray, Sl.v p1] H (fun v H' => ∃ (r0 : Option Addr), v = .pointer r0 ∧ Q r0 H') := by
  unfold keelsonref11_NewTable at h
  refine callsH_of_go Try.func27 rfl Try.ntmps27 (Nat.le_of_ble_eq_true rfl) ?_
  refine Go.seq ?_
  refine Go.region rfl ?_
  refine op_dst rfl rfl (by decide) (do_newBox (cs := [.int .i64 p0.1, .int .i64 p0.2.1, .int .i64 p0.2.2]) rfl rfl fun a1 H2 hb3 => ?_) 
  have h := h a1 H2 hb3
  refine GoOps.q (v := .pointer none) rfl rfl (by decide) (q_assign rfl) ?_
  refine GoOps.nil ?_
  refine Go.seq ?_
  refine join_go 1 (fun ρ (s4 : Option Addr) => ρ 1 = Sl.v p1 ∧ ρ 2 = .pointer (some a1) ∧ ρ 5 = .pointer s4) h ?_ ?_ <;> clear h
  · intro s4 H6 ρ h hE
    obtain ⟨e7_1, e7_2, e7_5⟩ := hE
    refine Go.seq ?_
    refine Go.seq ?_
    refine Go.region rfl ?_
    refine GoOps.q (v := Sl.v p1) rfl rfl (by decide) (q_move e7_1) ?_
    refine GoOps.q (v := .int .i64 (p1.len : Int)) rfl rfl (by decide) (q_len Try.underlying50 rfl (ls1 rfl)) ?_
    refine GoOps.q (v := .bool ((p1.len : Int) == 0)) rfl rfl (by decide) (q_eql rfl rfl) ?_
    refine GoOps.nil ?_
    rcases bor ((p1.len : Int) == 0) with hc8 | hc8
    · have h := h.1 hc8
      refine Go.condT (btT rfl hc8) ?_
      refine Go.seq ?_
      refine Go.region rfl ?_
      refine GoOps.q (v := .pointer s4) rfl rfl (by decide) (q_move e7_5) ?_
      refine GoOps.q (v := .pointer s4) rfl rfl (by decide) (q_assign rfl) ?_
      refine GoOps.nil ?_
      exact Go.ret ⟨.inl rfl, _, _, DOk.nil, (resOk1 Try.results27 rfl), ⟨_, rfl, h⟩⟩
    · have h := h.2 hc8
      refine Go.condF (btF rfl hc8) ?_
      refine Go.skip ?_
      refine Go.seq ?_
      refine Go.seq ?_
      refine Go.region rfl ?_
      refine GoOps.q (v := Sl.v p1) rfl rfl (by decide) (q_move e7_1) ?_
      refine GoOps.q (v := .int .i64 (p1.len : Int)) rfl rfl (by decide) (q_len Try.underlying50 rfl (ls1 rfl)) ?_
      refine GoOps.q (v := .pointer (some (a1.add 1))) rfl rfl (by decide) (q_fieldAddr foff26_1 e7_2) ?_
      obtain ⟨x9, hx10, h⟩ := h
      refine GoOps.q (v := .int .i64 x9) rfl rfl (by decide) (q_load scalar3 rfl hx10) ?_
      refine GoOps.q (v := .bool ((p1.len : Int) != x9)) rfl rfl (by decide) (q_neq rfl rfl) ?_
      refine GoOps.nil ?_
      rcases bor ((p1.len : Int) != x9) with hc11 | hc11
      · have h := h.1 hc11
        refine Go.condT (btT rfl hc11) ?_
        refine Go.seq ?_
        refine Go.region rfl ?_
        refine GoOps.q (v := .pointer none) rfl rfl (by decide) (q_assign rfl) ?_
        refine GoOps.nil ?_
        exact Go.ret ⟨.inl rfl, _, _, DOk.nil, (resOk1 Try.results27 rfl), ⟨_, rfl, h⟩⟩
      · have h := h.2 hc11
        refine Go.condF (btF rfl hc11) ?_
        refine Go.skip ?_
        refine Go.seq ?_
        refine Go.seq ?_
        refine Go.region rfl ?_
        refine GoOps.q (v := .int .i64 0) rfl rfl (by decide) (q_assign rfl) ?_
        refine GoOps.nil ?_
        refine Go.block ?_
        refine loop_go (fun ρ (s12 : Int) => ρ 1 = Sl.v p1 ∧ ρ 5 = .pointer s4 ∧ ρ 6 = .int .i64 s12) h ⟨e7_1, e7_5, rfl⟩ ?_
        clear h
        intro ρ s12 H15 again13 hE h hagain13
        obtain ⟨e14_1, e14_5, e14_6⟩ := hE
        refine Go.seq ?_
        refine Go.seq ?_
        refine Go.region rfl ?_
        refine GoOps.q (v := .int .i64 s12) rfl rfl (by decide) (q_move e14_6) ?_
        refine GoOps.q (v := Sl.v p1) rfl rfl (by decide) (q_move e14_1) ?_
        refine GoOps.q (v := .int .i64 (p1.len : Int)) rfl rfl (by decide) (q_len Try.underlying50 rfl (ls1 rfl)) ?_
        refine GoOps.q (v := .bool (decide (s12 < (p1.len : Int)))) rfl rfl (by decide) (q_lss rfl rfl) ?_
        refine GoOps.nil ?_
        rcases bor (decide (s12 < (p1.len : Int))) with hc16 | hc16
        · have h := h.1 hc16
          refine Go.condT (btT rfl hc16) ?_
          refine Go.skip ?_
          refine Go.seq ?_
          refine Go.block ?_
          refine Go.seq ?_
          refine Go.seq ?_
          refine Go.region rfl ?_
          refine GoOps.q (v := Sl.v p1) rfl rfl (by decide) (q_move e14_1) ?_
          refine GoOps.q (v := .int .i64 s12) rfl rfl (by decide) (q_move e14_6) ?_
          obtain ⟨a17, ha18, h⟩ := h
          refine GoOps.q (v := .pointer (some a17)) rfl rfl (by decide) (q_idx slice50 ha18 rfl rfl) ?_
          refine GoOps.q (v := .pointer (some (a17.add 0))) rfl rfl (by decide) (q_fieldAddr foff52_0 rfl) ?_
          obtain ⟨x19, hx20, h⟩ := h
          refine GoOps.q (v := .int .i64 x19) rfl rfl (by decide) (q_load scalar3 rfl hx20) ?_
          refine call_dst rfl (by decide) body48 (keelsonref1_Within_s _ _ _ _ _ h) rfl ?_
          rintro _ H21 ⟨y22, rfl, h⟩
          refine GoOps.q (v := .bool (!y22)) rfl rfl (by decide) (q_not rfl) ?_
          refine GoOps.q (v := .bool (!y22)) rfl rfl (by decide) (q_move rfl) ?_
          refine join_ops 8 (fun ρ (s24 : Bool) => ρ 1 = Sl.v p1 ∧ ρ 5 = .pointer s4 ∧ ρ 6 = .int .i64 s12 ∧ ρ 46 = .bool s24) h ?_ ?_ <;> clear h
          · intro s24 H26 ρ h hE
            obtain ⟨e27_1, e27_5, e27_6, e27_46⟩ := hE
            refine GoOps.nil ?_
            rcases bor s24 with hc28 | hc28
            · have h := h.1 hc28
              refine Go.condT (btT e27_46 hc28) ?_
              refine Go.seq ?_
              refine Go.region rfl ?_
              refine GoOps.q (v := .pointer none) rfl rfl (by decide) (q_assign rfl) ?_
              refine GoOps.nil ?_
              exact Go.ret ⟨.inl rfl, _, _, DOk.nil, (resOk1 Try.results27 rfl), ⟨_, rfl, h⟩⟩
            · have h := h.2 hc28
              refine Go.condF (btF e27_46 hc28) ?_
              refine Go.skip ?_
              refine Go.draw mixed ?_
              refine plan_pure (i := 0) (d := 47) (S2 := 1) (v := .pointer s4) rfl (by decide +kernel) rfl (q_move e27_5) ?_
              obtain ⟨a29, ha30, h⟩ := h
              refine plan_pure (i := 1) (d := 48) (S2 := 3) (v := .pointer (some a29)) rfl (by decide +kernel) rfl (q_nilCheck (ptn rfl ha30)) ?_
              refine plan_pure (i := 2) (d := 49) (S2 := 7) (v := .pointer (some (a29.add 3))) rfl (by decide +kernel) rfl (q_fieldAddr foff81_1 rfl) ?_
              obtain ⟨x31, hx32, h⟩ := h
              refine plan_load (i := 3) (d := 50) (S2 := 15) (v := Sl.v x31) rfl (by decide +kernel) rfl (q_load scalar50 rfl hx32) ?_
              refine plan_pure (i := 4) (d := 51) (S2 := 31) (v := .int .i64 s12) rfl (by decide +kernel) rfl (q_move e27_6) ?_
              refine plan_pure (i := 5) (d := 52) (S2 := 63) (v := Sl.v p1) rfl (by decide +kernel) rfl (q_move e27_1) ?_
              refine plan_pure (i := 6) (d := 53) (S2 := 127) (v := .int .i64 s12) rfl (by decide +kernel) rfl (q_move e27_6) ?_
              obtain ⟨a33, ha34, h⟩ := h
              refine plan_pure (i := 7) (d := 54) (S2 := 255) (v := .pointer (some a33)) rfl (by decide +kernel) rfl (q_idx slice50 ha34 rfl rfl) ?_
              obtain ⟨x35, hx36, h⟩ := h
              refine plan_load (i := 8) (d := 55) (S2 := 511) (v := .agg ([.int .i64 x35.1, .int .i64 x35.2] : List Value).toArray) rfl (by decide +kernel) rfl (q_loadA aggr52 rfl hx36) ?_
              obtain ⟨a37, ha38, h⟩ := h
              refine plan_pure (i := 9) (d := 56) (S2 := 1023) (v := .pointer (some a37)) rfl (by decide +kernel) rfl (q_idx slice50 ha38 rfl rfl) ?_
              refine plan_one (j := 10) (S2 := 2047) (by decide +kernel) rfl (by decide) rfl ?_
              obtain ⟨q40b, q40o, q40c, q40e, hq40a, hq40b, hq40l, hq40v, h⟩ := h
              refine do_store (vs := [.int .i64 x35.1, .int .i64 x35.2]) size52 (pta rfl hq40a) rfl rfl rfl hq40v hq40b hq40l ?_
              refine ⟨_, (.inl ⟨⟨[10], by decide +kernel, rfl⟩, .inl ⟨⟨[10], by decide +kernel, rfl⟩, rfl⟩⟩), ?_⟩
              refine plan_done (by decide +kernel) ?_
              refine Go.inBlock ?_
              refine Go.region rfl ?_
              refine GoOps.q (v := .int .i64 s12) rfl rfl (by decide) (q_move e27_6) ?_
              refine GoOps.q (v := .int .i64 (IntKind.wrap .i64 (s12 + 1))) rfl rfl (by decide) (q_add rfl rfl) ?_
              refine GoOps.q (v := .int .i64 (IntKind.wrap .i64 (s12 + 1))) rfl rfl (by decide) (q_assign rfl) ?_
              refine GoOps.nil ?_
              exact hagain13 _ _ _ h ⟨e27_1, e27_5, rfl⟩
          · intro j25 hj25 h
            rcases bor (!y22) with hc23 | hc23
            · have h := h.1 hc23
              refine no_dst (want_no rfl rfl rfl hc23) rfl (by decide) ?_
              refine no_dst (want_no rfl rfl rfl hc23) rfl (by decide) ?_
              refine no_dst (want_no rfl rfl rfl hc23) rfl (by decide) ?_
              refine no_dst (want_no rfl rfl rfl hc23) rfl (by decide) ?_
              refine no_dst (want_no rfl rfl rfl hc23) rfl (by decide) ?_
              refine no_dst (want_no rfl rfl rfl hc23) rfl (by decide) ?_
              refine no_dst (want_no rfl rfl rfl hc23) rfl (by decide) ?_
              refine GoOps.q (v := .bool true) rfl rfl (by decide) (q_pickT (btT rfl hc23) rfl) ?_
              exact hj25 true _ _ h (by exact ⟨e14_1, e14_5, e14_6, rfl⟩)
            · have h := h.2 hc23
              refine GoOps.q (v := Sl.v p1) (want_yes rfl rfl rfl hc23) rfl (by decide) (q_move e14_1) ?_
              refine GoOps.q (v := .int .i64 s12) (want_yes rfl rfl rfl hc23) rfl (by decide) (q_move e14_6) ?_
              obtain ⟨a41, ha42, h⟩ := h
              refine GoOps.q (v := .pointer (some a41)) (want_yes rfl rfl rfl hc23) rfl (by decide) (q_idx slice50 ha42 rfl rfl) ?_
              refine GoOps.q (v := .pointer (some (a41.add 1))) (want_yes rfl rfl rfl hc23) rfl (by decide) (q_fieldAddr foff52_1 rfl) ?_
              obtain ⟨x43, hx44, h⟩ := h
              refine GoOps.q (v := .int .i64 x43) (want_yes rfl rfl rfl hc23) rfl (by decide) (q_load scalar3 rfl hx44) ?_
              refine call_dst (want_yes rfl rfl rfl hc23) (by decide) body48 (keelsonref1_Within_s _ _ _ _ _ h) rfl ?_
              rintro _ H45 ⟨y46, rfl, h⟩
              refine GoOps.q (v := .bool (!y46)) (want_yes rfl rfl rfl hc23) rfl (by decide) (q_not rfl) ?_
              refine GoOps.q (v := .bool (!y46)) rfl rfl (by decide) (q_pickF (btF rfl hc23) rfl) ?_
              exact hj25 (!y46) _ _ h (by exact ⟨e14_1, e14_5, e14_6, rfl⟩)
        · have h := h.2 hc16
          refine Go.condF (btF rfl hc16) ?_
          refine Go.exit rfl ?_
          refine Go.seq ?_
          refine Go.region rfl ?_
          refine GoOps.q (v := .pointer s4) rfl rfl (by decide) (q_move e14_5) ?_
          refine GoOps.q (v := .pointer s4) rfl rfl (by decide) (q_assign rfl) ?_
          refine GoOps.nil ?_
          exact Go.ret ⟨.inl rfl, _, _, DOk.nil, (resOk1 Try.results27 rfl), ⟨_, rfl, h⟩⟩
  · intro j5 hj5 h
    refine Go.draw mixed ?_
    obtain ⟨x47, hx48, h⟩ := h
    refine plan_load (i := 0) (d := 7) (S2 := 1) (v := .agg ([.int .i64 x47.1, .int .i64 x47.2.1, .int .i64 x47.2.2] : List Value).toArray) rfl (by decide +kernel) rfl (q_loadA aggr26 rfl hx48) ?_
    refine plan_pure (i := 1) (d := 8) (S2 := 3) (v := .pointer (some (a1.add 1))) rfl (by decide +kernel) rfl (q_fieldAddr foff26_1 rfl) ?_
    obtain ⟨x49, hx50, h⟩ := h
    refine plan_load (i := 2) (d := 9) (S2 := 7) (v := .int .i64 x49) rfl (by decide +kernel) rfl (q_load scalar3 rfl hx50) ?_
    refine plan_pure (i := 4) (d := 11) (S2 := 23) (v := .pointer (some (a1.add 1))) rfl (by decide +kernel) rfl (q_fieldAddr foff26_1 rfl) ?_
    obtain ⟨x51, hx52, h⟩ := h
    refine plan_load (i := 5) (d := 12) (S2 := 55) (v := .int .i64 x51) rfl (by decide +kernel) rfl (q_load scalar3 rfl hx52) ?_
    obtain ⟨hm53, h⟩ := h
    obtain ⟨hm54, h⟩ := h
    refine plan_step (R := [3, 6]) (by decide +kernel) ⟨?_, ?_, trivial⟩
    · refine pstep_yes (S2 := 63) rfl (by decide +kernel) (by decide) rfl ?_
      refine do_mk (zs := [.int .i64 0, .int .i64 0]) slice50 bytes52 (by decide) zero52 rfl rfl (by decide) rfl rfl hm53 fun r55 H56 hb57 => ?_
      have h := h r55 H56 hb57
      obtain ⟨hr58, h⟩ := h
      obtain ⟨hr59, h⟩ := h
      refine ⟨_, (.inr ⟨⟨_, _, rfl, rfl, q_load scalar3 rfl hr58⟩, _, rfl, .inl ⟨⟨[3], by decide +kernel, rfl⟩, .inr ⟨⟨_, _, rfl, rfl, q_loadA aggr26 rfl hr59⟩, _, rfl, rfl⟩⟩⟩), ?_⟩
      refine plan_one (j := 6) (S2 := 127) (by decide +kernel) rfl (by decide) rfl ?_
      refine do_mk (zs := [.int .i64 0]) slice23 bytes3 (by decide) zero3 rfl rfl (by decide) rfl rfl hm54 fun r60 H61 hb62 => ?_
      have h := h r60 H61 hb62
      obtain ⟨hr63, h⟩ := h
      refine ⟨_, (.inl ⟨⟨[6], by decide +kernel, rfl⟩, .inr ⟨⟨_, _, rfl, rfl, q_loadA aggr26 rfl hr63⟩, _, rfl, rfl⟩⟩), ?_⟩
      refine plan_pure (i := 7) (d := 14) (S2 := 255) (v := .agg ([.int .i64 x47.1, .int .i64 x47.2.1, .int .i64 x47.2.2, Sl.v r55, Sl.v r60] : List Value).toArray) rfl (by decide +kernel) rfl (q_build (ps := [(0, .agg ([.int .i64 x47.1, .int .i64 x47.2.1, .int .i64 x47.2.2] : List Value).toArray), (1, Sl.v r55), (2, Sl.v r60)]) (cs := [.int .i64 x47.1, .int .i64 x47.2.1, .int .i64 x47.2.2, Sl.v r55, Sl.v r60]) places81 zero81 rfl rfl rfl) ?_
      refine plan_one (j := 8) (S2 := 511) (by decide +kernel) rfl (by decide) rfl ?_
      refine do_newBox (cs := [.int .i64 x47.1, .int .i64 x47.2.1, .int .i64 x47.2.2, Sl.v r55, Sl.v r60]) rfl rfl fun a64 H65 hb66 => ?_
      have h := h a64 H65 hb66
      refine ⟨_, (.inl ⟨⟨[7, 8], by decide +kernel, rfl⟩, rfl⟩), ?_⟩
      refine plan_pure (i := 9) (d := 5) (S2 := 1023) (v := .pointer (some a64)) rfl (by decide +kernel) rfl (q_assign rfl) ?_
      refine plan_done (by decide +kernel) ?_
      exact hj5 _ _ _ h ⟨rfl, rfl, rfl⟩
    · refine pstep_yes (S2 := 119) rfl (by decide +kernel) (by decide) rfl ?_
      refine do_mkT (zs := [.int .i64 0]) slice23 bytes3 (by decide) zero3 rfl rfl (by decide) rfl rfl hm54 fun b68 r67 hHb68 hTb68 hrb68 => ?_
      refine ⟨_, (.inl ⟨⟨[6], by decide +kernel, rfl⟩, .inr ⟨⟨_, _, rfl, rfl, q_load scalar3 rfl hx50⟩, _, rfl, .inr ⟨⟨_, _, rfl, rfl, q_loadA aggr26 rfl hx48⟩, _, rfl, rfl⟩⟩⟩), ?_⟩
      refine plan_one (j := 3) (S2 := 127) (by decide +kernel) rfl (by decide) rfl ?_
      refine do_mk (zs := [.int .i64 0, .int .i64 0]) slice50 bytes52 (by decide) zero52 rfl rfl (by decide) rfl rfl hm53 fun r69 H70 hb71 => ?_
      have h := h r69 H70 hb71
      obtain ⟨hr72, h⟩ := h
      obtain ⟨hr73, h⟩ := h
      refine ⟨_, (.inl ⟨⟨[3], by decide +kernel, rfl⟩, .inr ⟨⟨_, _, rfl, rfl, q_loadA aggr26 rfl hr73⟩, _, rfl, rfl⟩⟩), ?_⟩
      refine plan_commit hTb68 fun hh75 => ?_
      have h := h r67 _ ⟨b68, hh75, hrb68, rfl⟩
      obtain ⟨hr76, h⟩ := h
      refine plan_pure (i := 7) (d := 14) (S2 := 255) (v := .agg ([.int .i64 x47.1, .int .i64 x47.2.1, .int .i64 x47.2.2, Sl.v r69, Sl.v r67] : List Value).toArray) rfl (by decide +kernel) rfl (q_build (ps := [(0, .agg ([.int .i64 x47.1, .int .i64 x47.2.1, .int .i64 x47.2.2] : List Value).toArray), (1, Sl.v r69), (2, Sl.v r67)]) (cs := [.int .i64 x47.1, .int .i64 x47.2.1, .int .i64 x47.2.2, Sl.v r69, Sl.v r67]) places81 zero81 rfl rfl rfl) ?_
      refine plan_one (j := 8) (S2 := 511) (by decide +kernel) rfl (by decide) rfl ?_
      refine do_newBox (cs := [.int .i64 x47.1, .int .i64 x47.2.1, .int .i64 x47.2.2, Sl.v r69, Sl.v r67]) rfl rfl fun a77 H78 hb79 => ?_
      have h := h a77 H78 hb79
      refine ⟨_, (.inl ⟨⟨[7, 8], by decide +kernel, rfl⟩, rfl⟩), ?_⟩
      refine plan_pure (i := 9) (d := 5) (S2 := 1023) (v := .pointer (some a77)) rfl (by decide +kernel) rfl (q_assign rfl) ?_
      refine plan_done (by decide +kernel) ?_
      exact hj5 _ _ _ h ⟨rfl, rfl, rfl⟩

/-- (*keelson.keelsonref11.Table).there -/
def keelsonref11_Table_there (p0 : Option Addr) (p1 : Int) (H : PH) (Q : Bool → PH → Prop) : Prop :=
  mNil p0 fun a1 =>
  mLd Sl.v H (a1.add 3) fun x3 =>
  keelsonref1_Within p1 0 (IntKind.wrap .i64 ((x3.len : Int) - 1)) H fun y6 H5 =>
  Q y6 H5

set_option maxRecDepth 20000 in
set_option maxHeartbeats 1000000 in
theorem keelsonref11_Table_there_s (p0 : Option Addr) (p1 : Int) (H : PH) (Q : Bool → PH → Prop) (h : keelsonref11_Table_there p0 p1 H Q) :
    CallsH Try.prog 56 #[.pointer p0, .int .i64 p1] H (fun v H' => ∃ (r0 : Bool), v = .bool r0 ∧ Q r0 H') := by
  unfold keelsonref11_Table_there at h
  refine callsH_of_go Try.func56 rfl Try.ntmps56 (Nat.le_of_ble_eq_true rfl) ?_
  refine Go.seq ?_
  refine Go.region rfl ?_
  refine GoOps.q (v := .bool false) rfl rfl (by decide) (q_assign rfl) ?_
  refine GoOps.nil ?_
  refine Go.seq ?_
  refine Go.region rfl ?_
  refine GoOps.q (v := .int .i64 p1) rfl rfl (by decide) (q_move rfl) ?_
  refine GoOps.q (v := .pointer p0) rfl rfl (by decide) (q_move rfl) ?_
  obtain ⟨a1, ha2, h⟩ := h
  refine GoOps.q (v := .pointer (some a1)) rfl rfl (by decide) (q_nilCheck (ptn rfl ha2)) ?_
  refine GoOps.q (v := .pointer (some (a1.add 3))) rfl rfl (by decide) (q_fieldAddr foff81_1 rfl) ?_
  obtain ⟨x3, hx4, h⟩ := h
  refine GoOps.q (v := Sl.v x3) rfl rfl (by decide) (q_load scalar50 rfl hx4) ?_
  refine GoOps.q (v := .int .i64 (x3.len : Int)) rfl rfl (by decide) (q_len Try.underlying50 rfl (ls1 rfl)) ?_
  refine GoOps.q (v := .int .i64 (IntKind.wrap .i64 ((x3.len : Int) - 1))) rfl rfl (by decide) (q_sub rfl rfl) ?_
  refine call_dst rfl (by decide) body48 (keelsonref1_Within_s _ _ _ _ _ h) rfl ?_
  rintro _ H5 ⟨y6, rfl, h⟩
  refine GoOps.q (v := .bool y6) rfl rfl (by decide) (q_assign rfl) ?_
  refine GoOps.nil ?_
  exact Go.ret ⟨.inl rfl, _, _, DOk.nil, (resOk1 Try.results56 rfl), ⟨_, rfl, h⟩⟩

/-- (*keelson.keelsonref11.Table).Use -/
def keelsonref11_Table_Use (p0 : Option Addr) (p1 : Int) (H : PH) (Q : (Int × Int) → PH → Prop) : Prop :=
  mNew H (row [.int .i64 0, .int .i64 0] 52) fun a1 H2 =>
  keelsonref11_Table_there p0 p1 H2 fun y5 H4 =>
  mIf (!y5)
  (mSt H4 a1 ([.int .i64 0, .int .i64 0]) fun H7 =>
  mLdR (fun (x : (Int × Int)) => [.int .i64 x.1, .int .i64 x.2]) H7 a1 2 fun x9 =>
  Q (x9.1, x9.2) H7)
  (mNil p0 fun a11 =>
  mLd Sl.v H4 (a11.add 3) fun x13 =>
  mIdx x13 2 p1 fun a15 =>
  mLdR (fun (x : (Int × Int)) => [.int .i64 x.1, .int .i64 x.2]) H4 a15 2 fun x17 =>
  mSt H4 a1 ([.int .i64 x17.1, .int .i64 x17.2]) fun H19 =>
  mLdR (fun (x : (Int × Int)) => [.int .i64 x.1, .int .i64 x.2]) H19 a1 2 fun x21 =>
  Q (x21.1, x21.2) H19)

set_option maxRecDepth 20000 in
set_option maxHeartbeats 1000000 in
theorem keelsonref11_Table_Use_s (p0 : Option Addr) (p1 : Int) (H : PH) (Q : (Int × Int) → PH → Prop) (h : keelsonref11_Table_Use p0 p1 H Q) :
    CallsH Try.prog 49 #[.pointer p0, .int .i64 p1] H (fun v H' => ∃ (r0 : (Int × Int)), v = .agg ([.int .i64 r0.1, .int .i64 r0.2] : List Value).toArray ∧ Q r0 H') := by
  unfold keelsonref11_Table_Use at h
  refine callsH_of_go Try.func49 rfl Try.ntmps49 (Nat.le_of_ble_eq_true rfl) ?_
  refine Go.seq ?_
  refine Go.region rfl ?_
  refine op_dst rfl rfl (by decide) (do_new zero52 rfl fun a1 H2 hb3 => ?_) 
  have h := h a1 H2 hb3
  refine GoOps.nil ?_
  refine Go.seq ?_
  refine Go.seq ?_
  refine Go.region rfl ?_
  refine GoOps.q (v := .pointer p0) rfl rfl (by decide) (q_move rfl) ?_
  refine GoOps.q (v := .int .i64 p1) rfl rfl (by decide) (q_move rfl) ?_
  refine call_dst rfl (by decide) body56 (keelsonref11_Table_there_s _ _ _ _ h) rfl ?_
  rintro _ H4 ⟨y5, rfl, h⟩
  refine GoOps.q (v := .bool (!y5)) rfl rfl (by decide) (q_not rfl) ?_
  refine GoOps.nil ?_
  rcases bor (!y5) with hc6 | hc6
  · have h := h.1 hc6
    refine Go.condT (btT rfl hc6) ?_
    refine Go.seq ?_
    refine Go.region rfl ?_
    refine GoOps.q (v := .agg ([.int .i64 0, .int .i64 0] : List Value).toArray) rfl rfl (by decide) (q_build (ps := []) (cs := [.int .i64 0, .int .i64 0]) places52 zero52 rfl rfl rfl) ?_
    obtain ⟨q8b, q8o, q8c, q8e, hq8a, hq8b, hq8l, hq8v, h⟩ := h
    refine op_none rfl rfl (do_store (vs := [.int .i64 0, .int .i64 0]) size52 (pta rfl hq8a) rfl rfl rfl hq8v hq8b hq8l ?_) 
    refine GoOps.nil ?_
    obtain ⟨x9, hx10, h⟩ := h
    exact Go.ret ⟨.inl rfl, _, _, DOk.nil, (resOkV1 Try.results49 (rv_cellA aggr52 rfl hx10)), ⟨_, rfl, h⟩⟩
  · have h := h.2 hc6
    refine Go.condF (btF rfl hc6) ?_
    refine Go.skip ?_
    refine Go.seq ?_
    refine Go.region rfl ?_
    refine GoOps.q (v := .pointer p0) rfl rfl (by decide) (q_move rfl) ?_
    obtain ⟨a11, ha12, h⟩ := h
    refine GoOps.q (v := .pointer (some a11)) rfl rfl (by decide) (q_nilCheck (ptn rfl ha12)) ?_
    refine GoOps.q (v := .pointer (some (a11.add 3))) rfl rfl (by decide) (q_fieldAddr foff81_1 rfl) ?_
    obtain ⟨x13, hx14, h⟩ := h
    refine GoOps.q (v := Sl.v x13) rfl rfl (by decide) (q_load scalar50 rfl hx14) ?_
    refine GoOps.q (v := .int .i64 p1) rfl rfl (by decide) (q_move rfl) ?_
    obtain ⟨a15, ha16, h⟩ := h
    refine GoOps.q (v := .pointer (some a15)) rfl rfl (by decide) (q_idx slice50 ha16 rfl rfl) ?_
    obtain ⟨x17, hx18, h⟩ := h
    refine GoOps.q (v := .agg ([.int .i64 x17.1, .int .i64 x17.2] : List Value).toArray) rfl rfl (by decide) (q_loadA aggr52 rfl hx18) ?_
    obtain ⟨q20b, q20o, q20c, q20e, hq20a, hq20b, hq20l, hq20v, h⟩ := h
    refine op_none rfl rfl (do_store (vs := [.int .i64 x17.1, .int .i64 x17.2]) size52 (pta rfl hq20a) rfl rfl rfl hq20v hq20b hq20l ?_) 
    refine GoOps.nil ?_
    obtain ⟨x21, hx22, h⟩ := h
    exact Go.ret ⟨.inl rfl, _, _, DOk.nil, (resOkV1 Try.results49 (rv_cellA aggr52 rfl hx22)), ⟨_, rfl, h⟩⟩

/-- (*keelson.usage.Table).Stamp -/
def usage_Table_Stamp (p0 : Option Addr) (p1 : Int) (H : PH) (Q : Int → PH → Prop) : Prop :=
  usage_Table_has p0 p1 H fun y2 H1 =>
  mIf (!y2)
  (Q 0 H1)
  (mNil p0 fun a4 =>
  mLd Sl.v H1 (a4.add 1) fun x6 =>
  mIdx x6 2 p1 fun a8 =>
  mLd (.int .i64) H1 (a8.add 1) fun x10 =>
  Q x10 H1)

set_option maxRecDepth 20000 in
set_option maxHeartbeats 1000000 in
theorem usage_Table_Stamp_s (p0 : Option Addr) (p1 : Int) (H : PH) (Q : Int → PH → Prop) (h : usage_Table_Stamp p0 p1 H Q) :
    CallsH Try.prog 50 #[.pointer p0, .int .i64 p1] H (fun v H' => ∃ (r0 : Int), v = .int .i64 r0 ∧ Q r0 H') := by
  unfold usage_Table_Stamp at h
  refine callsH_of_go Try.func50 rfl Try.ntmps50 (Nat.le_of_ble_eq_true rfl) ?_
  refine Go.seq ?_
  refine Go.region rfl ?_
  refine GoOps.q (v := .int .i64 0) rfl rfl (by decide) (q_assign rfl) ?_
  refine GoOps.nil ?_
  refine Go.seq ?_
  refine Go.seq ?_
  refine Go.region rfl ?_
  refine GoOps.q (v := .pointer p0) rfl rfl (by decide) (q_move rfl) ?_
  refine GoOps.q (v := .int .i64 p1) rfl rfl (by decide) (q_move rfl) ?_
  refine call_dst rfl (by decide) body39 (usage_Table_has_s _ _ _ _ h) rfl ?_
  rintro _ H1 ⟨y2, rfl, h⟩
  refine GoOps.q (v := .bool (!y2)) rfl rfl (by decide) (q_not rfl) ?_
  refine GoOps.nil ?_
  rcases bor (!y2) with hc3 | hc3
  · have h := h.1 hc3
    refine Go.condT (btT rfl hc3) ?_
    refine Go.seq ?_
    refine Go.region rfl ?_
    refine GoOps.q (v := .int .i64 0) rfl rfl (by decide) (q_assign rfl) ?_
    refine GoOps.nil ?_
    exact Go.ret ⟨.inl rfl, _, _, DOk.nil, (resOk1 Try.results50 rfl), ⟨_, rfl, h⟩⟩
  · have h := h.2 hc3
    refine Go.condF (btF rfl hc3) ?_
    refine Go.skip ?_
    refine Go.seq ?_
    refine Go.region rfl ?_
    refine GoOps.q (v := .pointer p0) rfl rfl (by decide) (q_move rfl) ?_
    obtain ⟨a4, ha5, h⟩ := h
    refine GoOps.q (v := .pointer (some a4)) rfl rfl (by decide) (q_nilCheck (ptn rfl ha5)) ?_
    refine GoOps.q (v := .pointer (some (a4.add 1))) rfl rfl (by decide) (q_fieldAddr foff71_1 rfl) ?_
    obtain ⟨x6, hx7, h⟩ := h
    refine GoOps.q (v := Sl.v x6) rfl rfl (by decide) (q_load scalar50 rfl hx7) ?_
    refine GoOps.q (v := .int .i64 p1) rfl rfl (by decide) (q_move rfl) ?_
    obtain ⟨a8, ha9, h⟩ := h
    refine GoOps.q (v := .pointer (some a8)) rfl rfl (by decide) (q_idx slice50 ha9 rfl rfl) ?_
    refine GoOps.q (v := .pointer (some (a8.add 1))) rfl rfl (by decide) (q_fieldAddr foff52_1 rfl) ?_
    obtain ⟨x10, hx11, h⟩ := h
    refine GoOps.q (v := .int .i64 x10) rfl rfl (by decide) (q_load scalar3 rfl hx11) ?_
    refine GoOps.q (v := .int .i64 x10) rfl rfl (by decide) (q_assign rfl) ?_
    refine GoOps.nil ?_
    exact Go.ret ⟨.inl rfl, _, _, DOk.nil, (resOk1 Try.results50 rfl), ⟨_, rfl, h⟩⟩

/-- (*keelson.keelsonref11.Table).Lives -/
def keelsonref11_Table_Lives (p0 : Option Addr) (p1 : Int) (H : PH) (Q : Int → PH → Prop) : Prop :=
  keelsonref11_Table_there p0 p1 H fun y2 H1 =>
  mIf (!y2)
  (Q 0 H1)
  (mNil p0 fun a4 =>
  mLd Sl.v H1 (a4.add 4) fun x6 =>
  mIdx x6 1 p1 fun a8 =>
  mLd (.int .i64) H1 a8 fun x10 =>
  Q x10 H1)

set_option maxRecDepth 20000 in
set_option maxHeartbeats 1000000 in
theorem keelsonref11_Table_Lives_s (p0 : Option Addr) (p1 : Int) (H : PH) (Q : Int → PH → Prop) (h : keelsonref11_Table_Lives p0 p1 H Q) :
    CallsH Try.prog 51 #[.pointer p0, .int .i64 p1] H (fun v H' => ∃ (r0 : Int), v = .int .i64 r0 ∧ Q r0 H') := by
  unfold keelsonref11_Table_Lives at h
  refine callsH_of_go Try.func51 rfl Try.ntmps51 (Nat.le_of_ble_eq_true rfl) ?_
  refine Go.seq ?_
  refine Go.region rfl ?_
  refine GoOps.q (v := .int .i64 0) rfl rfl (by decide) (q_assign rfl) ?_
  refine GoOps.nil ?_
  refine Go.seq ?_
  refine Go.seq ?_
  refine Go.region rfl ?_
  refine GoOps.q (v := .pointer p0) rfl rfl (by decide) (q_move rfl) ?_
  refine GoOps.q (v := .int .i64 p1) rfl rfl (by decide) (q_move rfl) ?_
  refine call_dst rfl (by decide) body56 (keelsonref11_Table_there_s _ _ _ _ h) rfl ?_
  rintro _ H1 ⟨y2, rfl, h⟩
  refine GoOps.q (v := .bool (!y2)) rfl rfl (by decide) (q_not rfl) ?_
  refine GoOps.nil ?_
  rcases bor (!y2) with hc3 | hc3
  · have h := h.1 hc3
    refine Go.condT (btT rfl hc3) ?_
    refine Go.seq ?_
    refine Go.region rfl ?_
    refine GoOps.q (v := .int .i64 0) rfl rfl (by decide) (q_assign rfl) ?_
    refine GoOps.nil ?_
    exact Go.ret ⟨.inl rfl, _, _, DOk.nil, (resOk1 Try.results51 rfl), ⟨_, rfl, h⟩⟩
  · have h := h.2 hc3
    refine Go.condF (btF rfl hc3) ?_
    refine Go.skip ?_
    refine Go.seq ?_
    refine Go.region rfl ?_
    refine GoOps.q (v := .pointer p0) rfl rfl (by decide) (q_move rfl) ?_
    obtain ⟨a4, ha5, h⟩ := h
    refine GoOps.q (v := .pointer (some a4)) rfl rfl (by decide) (q_nilCheck (ptn rfl ha5)) ?_
    refine GoOps.q (v := .pointer (some (a4.add 4))) rfl rfl (by decide) (q_fieldAddr foff81_2 rfl) ?_
    obtain ⟨x6, hx7, h⟩ := h
    refine GoOps.q (v := Sl.v x6) rfl rfl (by decide) (q_load scalar23 rfl hx7) ?_
    refine GoOps.q (v := .int .i64 p1) rfl rfl (by decide) (q_move rfl) ?_
    obtain ⟨a8, ha9, h⟩ := h
    refine GoOps.q (v := .pointer (some a8)) rfl rfl (by decide) (q_idx slice23 ha9 rfl rfl) ?_
    obtain ⟨x10, hx11, h⟩ := h
    refine GoOps.q (v := .int .i64 x10) rfl rfl (by decide) (q_load scalar3 rfl hx11) ?_
    refine GoOps.q (v := .int .i64 x10) rfl rfl (by decide) (q_assign rfl) ?_
    refine GoOps.nil ?_
    exact Go.ret ⟨.inl rfl, _, _, DOk.nil, (resOk1 Try.results51 rfl), ⟨_, rfl, h⟩⟩

/-- (*keelson.keelsonref11.Table).Free -/
def keelsonref11_Table_Free (p0 : Option Addr) (H : PH) (Q : Int → PH → Prop) : Prop :=
  mLoop (fun (s1 : Int × Int) (H4 : PH) (again2 : (Int × Int) → PH → Prop) =>
  mNil p0 fun a5 =>
  mLd Sl.v H4 (a5.add 3) fun x7 =>
  mIf (decide (s1.2 < (x7.len : Int)))
  (mJoin (fun (s10 : Int) (H12 : PH) =>
  again2 (s10, IntKind.wrap .i64 (s1.2 + 1)) H12)
  fun j11 =>
  mNil p0 fun a14 =>
  mLd Sl.v H4 (a14.add 3) fun x16 =>
  mIdx x16 2 s1.2 fun a18 =>
  mLd (.int .i64) H4 (a18.add 0) fun x20 =>
  mIf (x20 == 0)
  (j11 (IntKind.wrap .i64 (s1.1 + 1)) H4)
  (j11 s1.1 H4))
  (Q s1.1 H4))
  (0, 0) H

set_option maxRecDepth 20000 in
set_option maxHeartbeats 1000000 in
theorem keelsonref11_Table_Free_s (p0 : Option Addr) (H : PH) (Q : Int → PH → Prop) (h : keelsonref11_Table_Free p0 H Q) :
    CallsH Try.prog 52 #[.pointer p0] H (fun v H' => ∃ (r0 : Int), v = .int .i64 r0 ∧ Q r0 H') := by
  unfold keelsonref11_Table_Free at h
  refine callsH_of_go Try.func52 rfl Try.ntmps52 (Nat.le_of_ble_eq_true rfl) ?_
  refine Go.seq ?_
  refine Go.region rfl ?_
  refine GoOps.q (v := .int .i64 0) rfl rfl (by decide) (q_assign rfl) ?_
  refine GoOps.nil ?_
  refine Go.seq ?_
  refine Go.region rfl ?_
  refine GoOps.q (v := .int .i64 0) rfl rfl (by decide) (q_assign rfl) ?_
  refine GoOps.nil ?_
  refine Go.seq ?_
  refine Go.seq ?_
  refine Go.region rfl ?_
  refine GoOps.q (v := .int .i64 0) rfl rfl (by decide) (q_assign rfl) ?_
  refine GoOps.nil ?_
  refine Go.block ?_
  refine loop_go (fun ρ (s1 : Int × Int) => ρ 0 = .pointer p0 ∧ ρ 3 = .int .i64 s1.1 ∧ ρ 4 = .int .i64 s1.2) h ⟨rfl, rfl, rfl⟩ ?_
  clear h
  intro ρ s1 H4 again2 hE h hagain2
  obtain ⟨e3_0, e3_3, e3_4⟩ := hE
  refine Go.seq ?_
  refine Go.seq ?_
  refine Go.region rfl ?_
  refine GoOps.q (v := .int .i64 s1.2) rfl rfl (by decide) (q_move e3_4) ?_
  refine GoOps.q (v := .pointer p0) rfl rfl (by decide) (q_move e3_0) ?_
  obtain ⟨a5, ha6, h⟩ := h
  refine GoOps.q (v := .pointer (some a5)) rfl rfl (by decide) (q_nilCheck (ptn rfl ha6)) ?_
  refine GoOps.q (v := .pointer (some (a5.add 3))) rfl rfl (by decide) (q_fieldAddr foff81_1 rfl) ?_
  obtain ⟨x7, hx8, h⟩ := h
  refine GoOps.q (v := Sl.v x7) rfl rfl (by decide) (q_load scalar50 rfl hx8) ?_
  refine GoOps.q (v := .int .i64 (x7.len : Int)) rfl rfl (by decide) (q_len Try.underlying50 rfl (ls1 rfl)) ?_
  refine GoOps.q (v := .bool (decide (s1.2 < (x7.len : Int)))) rfl rfl (by decide) (q_lss rfl rfl) ?_
  refine GoOps.nil ?_
  rcases bor (decide (s1.2 < (x7.len : Int))) with hc9 | hc9
  · have h := h.1 hc9
    refine Go.condT (btT rfl hc9) ?_
    refine Go.skip ?_
    refine Go.seq ?_
    refine join_go 1 (fun ρ (s10 : Int) => ρ 0 = .pointer p0 ∧ ρ 3 = .int .i64 s10 ∧ ρ 4 = .int .i64 s1.2) h ?_ ?_ <;> clear h
    · intro s10 H12 ρ h hE
      obtain ⟨e13_0, e13_3, e13_4⟩ := hE
      refine Go.region rfl ?_
      refine GoOps.q (v := .int .i64 s1.2) rfl rfl (by decide) (q_move e13_4) ?_
      refine GoOps.q (v := .int .i64 (IntKind.wrap .i64 (s1.2 + 1))) rfl rfl (by decide) (q_add rfl rfl) ?_
      refine GoOps.q (v := .int .i64 (IntKind.wrap .i64 (s1.2 + 1))) rfl rfl (by decide) (q_assign rfl) ?_
      refine GoOps.nil ?_
      exact hagain2 _ _ _ h ⟨e13_0, e13_3, rfl⟩
    · intro j11 hj11 h
      refine Go.block ?_
      refine Go.seq ?_
      refine Go.region rfl ?_
      refine GoOps.q (v := .pointer p0) rfl rfl (by decide) (q_move e3_0) ?_
      obtain ⟨a14, ha15, h⟩ := h
      refine GoOps.q (v := .pointer (some a14)) rfl rfl (by decide) (q_nilCheck (ptn rfl ha15)) ?_
      refine GoOps.q (v := .pointer (some (a14.add 3))) rfl rfl (by decide) (q_fieldAddr foff81_1 rfl) ?_
      obtain ⟨x16, hx17, h⟩ := h
      refine GoOps.q (v := Sl.v x16) rfl rfl (by decide) (q_load scalar50 rfl hx17) ?_
      refine GoOps.q (v := .int .i64 s1.2) rfl rfl (by decide) (q_move e3_4) ?_
      obtain ⟨a18, ha19, h⟩ := h
      refine GoOps.q (v := .pointer (some a18)) rfl rfl (by decide) (q_idx slice50 ha19 rfl rfl) ?_
      refine GoOps.q (v := .pointer (some (a18.add 0))) rfl rfl (by decide) (q_fieldAddr foff52_0 rfl) ?_
      obtain ⟨x20, hx21, h⟩ := h
      refine GoOps.q (v := .int .i64 x20) rfl rfl (by decide) (q_load scalar3 rfl hx21) ?_
      refine GoOps.q (v := .bool (x20 == 0)) rfl rfl (by decide) (q_eql rfl rfl) ?_
      refine GoOps.nil ?_
      rcases bor (x20 == 0) with hc22 | hc22
      · have h := h.1 hc22
        refine Go.condT (btT rfl hc22) ?_
        refine Go.region rfl ?_
        refine GoOps.q (v := .int .i64 s1.1) rfl rfl (by decide) (q_move e3_3) ?_
        refine GoOps.q (v := .int .i64 (IntKind.wrap .i64 (s1.1 + 1))) rfl rfl (by decide) (q_add rfl rfl) ?_
        refine GoOps.q (v := .int .i64 (IntKind.wrap .i64 (s1.1 + 1))) rfl rfl (by decide) (q_assign rfl) ?_
        refine GoOps.nil ?_
        refine Go.inBlock ?_
        exact hj11 _ _ _ h ⟨e3_0, rfl, e3_4⟩
      · have h := h.2 hc22
        refine Go.condF (btF rfl hc22) ?_
        refine Go.skip ?_
        refine Go.inBlock ?_
        exact hj11 _ _ _ h ⟨e3_0, e3_3, e3_4⟩
  · have h := h.2 hc9
    refine Go.condF (btF rfl hc9) ?_
    refine Go.exit rfl ?_
    refine Go.seq ?_
    refine Go.region rfl ?_
    refine GoOps.q (v := .int .i64 s1.1) rfl rfl (by decide) (q_move e3_3) ?_
    refine GoOps.q (v := .int .i64 s1.1) rfl rfl (by decide) (q_assign rfl) ?_
    refine GoOps.nil ?_
    exact Go.ret ⟨.inl rfl, _, _, DOk.nil, (resOk1 Try.results52 rfl), ⟨_, rfl, h⟩⟩


end Go.Proofs.Ytmgmjcjpmfdboaa

import Derived.Test.YtinjkdoikljakaaFnp2
set_option linter.unusedVariables false
set_option linter.unusedSimpArgs false
namespace Go.Proofs.Ytinjkdoikljakaa
open Go Go.Kx Go.Proofs
/-- keelson.keelsonlaw19.VictimBest -/
def keelsonlaw19_VictimBest (p0 : (Int × Int × Int)) (p1 : Sl) (p2 : Sl) (p3 : Int) (p4 : Int) (H : PH) (Q : Bool → PH → Prop) : Prop :=
  mNew H (row [.int .i64 p0.1, .int .i64 p0.2.1, .int .i64 p0.2.2] 27) fun a1 H2 =>
  mLdR (fun (x : (Int × Int × Int)) => [.int .i64 x.1, .int .i64 x.2.1, .int .i64 x.2.2]) H2 a1 3 fun x4 =>
  keelsonalike_Config (x4.1, x4.2.1, x4.2.2) false H2 fun y7 H6 =>
  mNew H6 (row [.int .i64 0, .int .i64 0, .int .i64 0] 32) fun a8 H9 =>
  mSt H9 a8 ([.int .i64 y7.1, .int .i64 y7.2.1, .int .i64 y7.2.2]) fun H11 =>
  mLdR (fun (x : (Int × Int × Int)) => [.int .i64 x.1, .int .i64 x.2.1, .int .i64 x.2.2]) H11 a8 3 fun x13 =>
  geom_New (x13.1, x13.2.1, x13.2.2) H11 fun y16 y17 H15 =>
  mJoin (fun (s19 : Bool) (H21 : PH) =>
  mJoin (fun (s24 : Bool) (H26 : PH) =>
  mJoin (fun (s29 : Bool) (H31 : PH) =>
  mIf s29
  (mJoin (fun (s35 : Bool) (H37 : PH) =>
  mJoin (fun (s40 : Bool) (H42 : PH) =>
  Q s40 H42)
  fun j41 =>
  mIf s35
  (keelsonlaw19_awake H37 fun y45 H44 =>
  j41 y45 H44)
  (j41 false H37))
  fun j36 =>
  mIf (y17 == 0)
  (j36 (!(Option.isNone y16)) H31)
  (j36 false H31))
  (usage_New y16 Sl.nil H31 fun y47 H46 =>
  mIf (Option.isNone y47)
  (Q false H46)
  (keelsonalike_Round p4 1048576 H46 fun y50 H49 =>
  mLoop (fun (s51 : Int) (H54 : PH) (again52 : Int → PH → Prop) =>
  mLd (.int .i64) H54 (a8.add 1) fun x55 =>
  mIf (decide (s51 < x55))
  (mGe s51 <|
  mJoin (fun (s59 : Unit) (H61 : PH) =>
  mIdx p1 1 s51 fun a63 =>
  mLd (.int .i64) H61 a63 fun x65 =>
  mLd (.int .i64) H61 (a8.add 2) fun x67 =>
  geom_Geom_Seg y16 s51 H61 fun y70 H69 =>
  mSame H69 (a8.add 2) (.int .i64 x67) <|
  mSame H69 a63 (.int .i64 x65) <|
  keelsonalike_Round x65 x67 H69 fun y74 H73 =>
  usage_Table_Add y47 (IntKind.wrap .i64 (y70 + 1)) y74 H73 fun y76 H75 =>
  mIdx p2 1 s51 fun a77 =>
  mLd (.int .i64) H75 a77 fun x79 =>
  keelsonalike_Round x79 (IntKind.wrap .i64 (y50 + 1)) H75 fun y82 H81 =>
  usage_Table_Touch y47 s51 y82 H81 fun H83 =>
  again52 (IntKind.wrap .i64 (s51 + 1)) H83)
  fun j60 =>
  mIf ((iand .i64 (ishr .i64 p3 s51) 1) == 0)
  (usage_Table_Grab y47 s51 H54 fun y86 H85 =>
  usage_Table_Seal y47 s51 H85 fun H87 =>
  j60 () H87)
  (j60 () H54))
  (victim_Pick y16 y47 y50 H54 fun y89 y90 H88 =>
  mLoop (fun (s91 : Bool × Int) (H94 : PH) (again92 : (Bool × Int) → PH → Prop) =>
  mLd (.int .i64) H94 (a8.add 1) fun x95 =>
  mIf (decide (s91.2 < x95))
  (mJoin (fun (s98 : Bool) (H100 : PH) =>
  again92 (s98, IntKind.wrap .i64 (s91.2 + 1)) H100)
  fun j99 =>
  usage_Table_State y47 s91.2 H94 fun y103 H102 =>
  mJoin (fun (s105 : Bool) (H107 : PH) =>
  mJoin (fun (s110 : Bool) (H112 : PH) =>
  mIf s110
  (mJoin (fun (s116 : Bool) (H118 : PH) =>
  mIf s116
  (Q false H118)
  (j99 s91.1 H118))
  fun j117 =>
  mIf y90
  (j117 (s91.2 == y89) H112)
  (j117 false H112))
  (mJoin (fun (s121 : Addr) (H123 : PH) =>
  mJoin (fun (s125 : Addr) (H127 : PH) =>
  mJoin (fun (s130 : Bool) (H132 : PH) =>
  mIf s130
  (Q false H132)
  (j99 true H132))
  fun j131 =>
  mIf y90
  (mLdR (fun (x : (Int × Int × Int)) => [.int .i64 x.1, .int .i64 x.2.1, .int .i64 x.2.2]) H127 s121 3 fun x135 =>
  mLdR (fun (x : (Int × Int × Int)) => [.int .i64 x.1, .int .i64 x.2.1, .int .i64 x.2.2]) H127 s125 3 fun x137 =>
  victim_Better (x135.1, x135.2.1, x135.2.2) (x137.1, x137.2.1, x137.2.2) H127 fun y140 H139 =>
  j131 y140 H139)
  (j131 false H127))
  fun j126 =>
  mLd (.int .i64) H123 (a8.add 2) fun x141 =>
  usage_Table_Live y47 y89 H123 fun y144 H143 =>
  mSame H143 (a8.add 2) (.int .i64 x141) <|
  usage_Table_Stamp y47 y89 H143 fun y147 H146 =>
  mSame H146 (a8.add 2) (.int .i64 x141) <|
  victim_Score y144 (IntKind.wrap .i64 (y50 - y147)) (IntKind.wrap .i64 (x141 - 2)) H146 fun y150 H149 =>
  usage_Table_Live y47 y89 H149 fun y152 H151 =>
  mNew H151 (row [.int .i64 0, .int .i64 0, .int .i64 0] 27) fun a153 H154 =>
  mSt H154 a153 ([.int .i64 y150, .int .i64 y152, .int .i64 y89]) fun H156 =>
  j126 a153 H156)
  fun j122 =>
  mLd (.int .i64) H112 (a8.add 2) fun x217 =>
  usage_Table_Live y47 s91.2 H112 fun y220 H219 =>
  mSame H219 (a8.add 2) (.int .i64 x217) <|
  usage_Table_Stamp y47 s91.2 H219 fun y223 H222 =>
  mSame H222 (a8.add 2) (.int .i64 x217) <|
  victim_Score y220 (IntKind.wrap .i64 (y50 - y223)) (IntKind.wrap .i64 (x217 - 2)) H222 fun y226 H225 =>
  usage_Table_Live y47 s91.2 H225 fun y228 H227 =>
  mNew H227 (row [.int .i64 0, .int .i64 0, .int .i64 0] 27) fun a229 H230 =>
  mSt H230 a229 ([.int .i64 y226, .int .i64 y228, .int .i64 s91.2]) fun H232 =>
  j122 a229 H232))
  fun j111 =>
  mIf s105
  (j111 true H107)
  (usage_Table_Live y47 s91.2 H107 fun y294 H293 =>
  geom_Geom_Half y16 H293 fun y296 H295 =>
  j111 (decide (y296 < y294)) H295))
  fun j106 =>
  mIf (y103 != 2)
  (j106 true H102)
  (usage_Table_Live y47 s91.2 H102 fun y298 H297 =>
  j106 (decide (y298 < 1)) H297))
  (mJoin (fun (s300 : Bool) (H302 : PH) =>
  Q s300 H302)
  fun j301 =>
  mIf (y90 == s91.1)
  (keelsonlaw19_awake H94 fun y305 H304 =>
  j301 y305 H304)
  (j301 false H94)))
  (false, 0) H88))
  0 H49)))
  fun j30 =>
  mIf s24
  (j30 true H26)
  (mLd (.int .i64) H26 (a8.add 1) fun x306 =>
  j30 (decide ((p2.len : Int) < x306)) H26))
  fun j25 =>
  mIf s19
  (j25 true H21)
  (mLd (.int .i64) H21 (a8.add 1) fun x308 =>
  j25 (decide ((p1.len : Int) < x308)) H21))
  fun j20 =>
  mIf (y17 != 0)
  (j20 true H15)
  (j20 (Option.isNone y16) H15)

set_option maxRecDepth 20000 in
set_option maxHeartbeats 1000000 in
theorem keelsonlaw19_VictimBest_s (p0 : (Int × Int × Int)) (p1 : Sl) (p2 : Sl) (p3 : Int) (p4 : Int) (H : PH) (Q : Bool → PH → Prop) (h : keelsonlaw19_VictimBest p0 p1 p2 p3 p4 H Q) :
    CallsH Try.prog 7 #[.agg ([.int .i64 p0.1, .int .i64 p0.2.1, .int .i64 p0.2.2] : List Value).toArray, Sl.v p1, Sl.v p2, .int .i64 p3, .int .i64 p4] H (fun v H' => ∃ (r0 : Bool), v = .bool r0 ∧ Q r0 H') := by
  unfold keelsonlaw19_VictimBest at h
  refine callsH_of_go Try.func7 rfl Try.ntmps7 (Nat.le_of_ble_eq_true rfl) ?_
  refine Go.seq ?_
  refine Go.region rfl ?_
  refine op_dst rfl rfl (by decide) (do_newBox (cs := [.int .i64 p0.1, .int .i64 p0.2.1, .int .i64 p0.2.2]) rfl rfl fun a1 H2 hb3 => ?_) 
  have h := h a1 H2 hb3
  refine GoOps.q (v := .bool false) rfl rfl (by decide) (q_assign rfl) ?_
  refine GoOps.nil ?_
  refine Go.seq ?_
  refine Go.region rfl ?_
  obtain ⟨x4, hx5, h⟩ := h
  refine GoOps.q (v := .agg ([.int .i64 x4.1, .int .i64 x4.2.1, .int .i64 x4.2.2] : List Value).toArray) rfl rfl (by decide) (q_loadA aggr27 rfl hx5) ?_
  refine call_dst rfl (by decide) body14 (keelsonalike_Config_s _ _ _ _ h) rfl ?_
  rintro _ H6 ⟨y7, rfl, h⟩
  refine op_dst rfl rfl (by decide) (do_new zero32 rfl fun a8 H9 hb10 => ?_) 
  have h := h a8 H9 hb10
  obtain ⟨q12b, q12o, q12c, q12e, hq12a, hq12b, hq12l, hq12v, h⟩ := h
  refine op_none rfl rfl (do_store (vs := [.int .i64 y7.1, .int .i64 y7.2.1, .int .i64 y7.2.2]) size32 (pta rfl hq12a) rfl rfl rfl hq12v hq12b hq12l ?_) 
  refine GoOps.nil ?_
  refine Go.seq ?_
  refine Go.region rfl ?_
  obtain ⟨x13, hx14, h⟩ := h
  refine GoOps.q (v := .agg ([.int .i64 x13.1, .int .i64 x13.2.1, .int .i64 x13.2.2] : List Value).toArray) rfl rfl (by decide) (q_loadA aggr32 rfl hx14) ?_
  refine call_dst rfl (by decide) body15 (geom_New_s _ _ _ h) rfl ?_
  rintro _ H15 ⟨y16, y17, rfl, h⟩
  refine GoOps.q (v := .tuple #[.pointer y16, .int .i64 y17]) rfl rfl (by decide) (q_move rfl) ?_
  refine GoOps.q (v := .pointer y16) rfl rfl (by decide) (q_extract rfl rfl) ?_
  refine GoOps.q (v := .int .i64 y17) rfl rfl (by decide) (q_extract rfl rfl) ?_
  refine GoOps.q (v := .pointer y16) rfl rfl (by decide) (q_assign rfl) ?_
  refine GoOps.q (v := .int .i64 y17) rfl rfl (by decide) (q_assign rfl) ?_
  refine GoOps.nil ?_
  refine Go.seq ?_
  refine Go.seq ?_
  refine Go.region rfl ?_
  refine GoOps.q (v := .int .i64 y17) rfl rfl (by decide) (q_move rfl) ?_
  refine GoOps.q (v := .bool (y17 != 0)) rfl rfl (by decide) (q_neq rfl rfl) ?_
  refine GoOps.q (v := .bool (y17 != 0)) rfl rfl (by decide) (q_move rfl) ?_
  refine join_ops 3 (fun ρ (s19 : Bool) => ρ 1 = Sl.v p1 ∧ ρ 2 = Sl.v p2 ∧ ρ 3 = .int .i64 p3 ∧ ρ 4 = .int .i64 p4 ∧ ρ 11 = .pointer (some a8) ∧ ρ 12 = .pointer y16 ∧ ρ 13 = .int .i64 y17 ∧ ρ 35 = .bool s19) h ?_ ?_ <;> clear h
  · intro s19 H21 ρ h hE
    obtain ⟨e22_1, e22_2, e22_3, e22_4, e22_11, e22_12, e22_13, e22_35⟩ := hE
    refine GoOps.q (v := .bool s19) rfl rfl (by decide) (q_move e22_35) ?_
    refine join_ops 6 (fun ρ (s24 : Bool) => ρ 1 = Sl.v p1 ∧ ρ 2 = Sl.v p2 ∧ ρ 3 = .int .i64 p3 ∧ ρ 4 = .int .i64 p4 ∧ ρ 11 = .pointer (some a8) ∧ ρ 12 = .pointer y16 ∧ ρ 13 = .int .i64 y17 ∧ ρ 42 = .bool s24) h ?_ ?_ <;> clear h
    · intro s24 H26 ρ h hE
      obtain ⟨e27_1, e27_2, e27_3, e27_4, e27_11, e27_12, e27_13, e27_42⟩ := hE
      refine GoOps.q (v := .bool s24) rfl rfl (by decide) (q_move e27_42) ?_
      refine join_ops 6 (fun ρ (s29 : Bool) => ρ 1 = Sl.v p1 ∧ ρ 2 = Sl.v p2 ∧ ρ 3 = .int .i64 p3 ∧ ρ 4 = .int .i64 p4 ∧ ρ 11 = .pointer (some a8) ∧ ρ 12 = .pointer y16 ∧ ρ 13 = .int .i64 y17 ∧ ρ 49 = .bool s29) h ?_ ?_ <;> clear h
      · intro s29 H31 ρ h hE
        obtain ⟨e32_1, e32_2, e32_3, e32_4, e32_11, e32_12, e32_13, e32_49⟩ := hE
        refine GoOps.nil ?_
        rcases bor s29 with hc33 | hc33
        · have h := h.1 hc33
          refine Go.condT (btT e32_49 hc33) ?_
          refine Go.seq ?_
          refine Go.region rfl ?_
          refine GoOps.q (v := .int .i64 y17) rfl rfl (by decide) (q_move e32_13) ?_
          refine GoOps.q (v := .bool (y17 == 0)) rfl rfl (by decide) (q_eql rfl rfl) ?_
          refine GoOps.q (v := .bool (y17 == 0)) rfl rfl (by decide) (q_move rfl) ?_
          refine join_ops 3 (fun ρ (s35 : Bool) => ρ 55 = .bool s35) h ?_ ?_ <;> clear h
          · intro s35 H37 ρ h hE
            have e38_55 := hE
            refine GoOps.q (v := .bool s35) rfl rfl (by decide) (q_move e38_55) ?_
            refine join_ops 2 (fun ρ (s40 : Bool) => ρ 58 = .bool s40) h ?_ ?_ <;> clear h
            · intro s40 H42 ρ h hE
              have e43_58 := hE
              refine GoOps.q (v := .bool s40) rfl rfl (by decide) (q_assign e43_58) ?_
              refine GoOps.nil ?_
              exact Go.ret ⟨.inl rfl, _, _, DOk.nil, (resOk1 Try.results7 rfl), ⟨_, rfl, h⟩⟩
            · intro j41 hj41 h
              rcases bor s35 with hc39 | hc39
              · have h := h.1 hc39
                refine call_dst (want_yes rfl rfl rfl hc39) (by decide) body10 (keelsonlaw19_awake_s _ _ h) rfl ?_
                rintro _ H44 ⟨y45, rfl, h⟩
                refine GoOps.q (v := .bool y45) rfl rfl (by decide) (q_pickT (btT rfl hc39) rfl) ?_
                exact hj41 y45 _ _ h (by exact rfl)
              · have h := h.2 hc39
                refine no_dst (want_no rfl rfl rfl hc39) rfl (by decide) ?_
                refine GoOps.q (v := .bool false) rfl rfl (by decide) (q_pickF (btF rfl hc39) rfl) ?_
                exact hj41 false _ _ h (by exact rfl)
          · intro j36 hj36 h
            rcases bor (y17 == 0) with hc34 | hc34
            · have h := h.1 hc34
              refine GoOps.q (v := .pointer y16) (want_yes rfl rfl rfl hc34) rfl (by decide) (q_move e32_12) ?_
              refine GoOps.q (v := .bool (!(Option.isNone y16))) (want_yes rfl rfl rfl hc34) rfl (by decide) (q_neqPn Try.underlying34 rfl rfl) ?_
              refine GoOps.q (v := .bool (!(Option.isNone y16))) rfl rfl (by decide) (q_pickT (btT rfl hc34) rfl) ?_
              exact hj36 (!(Option.isNone y16)) _ _ h (by exact rfl)
            · have h := h.2 hc34
              refine no_dst (want_no rfl rfl rfl hc34) rfl (by decide) ?_
              refine no_dst (want_no rfl rfl rfl hc34) rfl (by decide) ?_
              refine GoOps.q (v := .bool false) rfl rfl (by decide) (q_pickF (btF rfl hc34) rfl) ?_
              exact hj36 false _ _ h (by exact rfl)
        · have h := h.2 hc33
          refine Go.condF (btF e32_49 hc33) ?_
          refine Go.skip ?_
          refine Go.seq ?_
          refine Go.region rfl ?_
          refine GoOps.q (v := .pointer y16) rfl rfl (by decide) (q_move e32_12) ?_
          refine call_dst rfl (by decide) body16 (usage_New_s _ _ _ _ h) rfl ?_
          rintro _ H46 ⟨y47, rfl, h⟩
          refine GoOps.q (v := .pointer y47) rfl rfl (by decide) (q_assign rfl) ?_
          refine GoOps.nil ?_
          refine Go.seq ?_
          refine Go.seq ?_
          refine Go.region rfl ?_
          refine GoOps.q (v := .pointer y47) rfl rfl (by decide) (q_move rfl) ?_
          refine GoOps.q (v := .bool (Option.isNone y47)) rfl rfl (by decide) (q_eqlPn Try.underlying41 rfl rfl) ?_
          refine GoOps.nil ?_
          rcases bor (Option.isNone y47) with hc48 | hc48
          · have h := h.1 hc48
            refine Go.condT (btT rfl hc48) ?_
            refine Go.seq ?_
            refine Go.region rfl ?_
            refine GoOps.q (v := .bool false) rfl rfl (by decide) (q_assign rfl) ?_
            refine GoOps.nil ?_
            exact Go.ret ⟨.inl rfl, _, _, DOk.nil, (resOk1 Try.results7 rfl), ⟨_, rfl, h⟩⟩
          · have h := h.2 hc48
            refine Go.condF (btF rfl hc48) ?_
            refine Go.skip ?_
            refine Go.seq ?_
            refine Go.region rfl ?_
            refine GoOps.q (v := .int .i64 p4) rfl rfl (by decide) (q_move e32_4) ?_
            refine call_dst rfl (by decide) body11 (keelsonalike_Round_s _ _ _ _ h) rfl ?_
            rintro _ H49 ⟨y50, rfl, h⟩
            refine GoOps.q (v := .int .i64 y50) rfl rfl (by decide) (q_assign rfl) ?_
            refine GoOps.nil ?_
            refine Go.seq ?_
            refine Go.seq ?_
            refine Go.region rfl ?_
            refine GoOps.q (v := .int .i64 0) rfl rfl (by decide) (q_assign rfl) ?_
            refine GoOps.nil ?_
            refine Go.block ?_
            refine loop_go (fun ρ (s51 : Int) => ρ 1 = Sl.v p1 ∧ ρ 2 = Sl.v p2 ∧ ρ 3 = .int .i64 p3 ∧ ρ 11 = .pointer (some a8) ∧ ρ 12 = .pointer y16 ∧ ρ 14 = .pointer y47 ∧ ρ 15 = .int .i64 y50 ∧ ρ 16 = .int .i64 s51) h ⟨e32_1, e32_2, e32_3, e32_11, e32_12, rfl, rfl, rfl⟩ ?_
            clear h
            intro ρ s51 H54 again52 hE h hagain52
            obtain ⟨e53_1, e53_2, e53_3, e53_11, e53_12, e53_14, e53_15, e53_16⟩ := hE
            refine Go.seq ?_
            refine Go.seq ?_
            refine Go.region rfl ?_
            refine GoOps.q (v := .int .i64 s51) rfl rfl (by decide) (q_move e53_16) ?_
            refine GoOps.q (v := .pointer (some (a8.add 1))) rfl rfl (by decide) (q_fieldAddr foff32_1 e53_11) ?_
            obtain ⟨x55, hx56, h⟩ := h
            refine GoOps.q (v := .int .i64 x55) rfl rfl (by decide) (q_load scalar3 rfl hx56) ?_
            refine GoOps.q (v := .bool (decide (s51 < x55))) rfl rfl (by decide) (q_lss rfl rfl) ?_
            refine GoOps.nil ?_
            rcases bor (decide (s51 < x55)) with hc57 | hc57
            · have h := h.1 hc57
              refine Go.condT (btT rfl hc57) ?_
              refine Go.skip ?_
              refine Go.seq ?_
              refine Go.block ?_
              refine Go.seq ?_
              refine Go.seq ?_
              refine Go.region rfl ?_
              refine GoOps.q (v := .int .i64 p3) rfl rfl (by decide) (q_move e53_3) ?_
              refine GoOps.q (v := .int .i64 s51) rfl rfl (by decide) (q_move e53_16) ?_
              obtain ⟨hn58, h⟩ := h
              refine GoOps.q (v := .int .i64 (ishr .i64 p3 s51)) rfl rfl (by decide) (q_shr hn58 rfl rfl) ?_
              refine GoOps.q (v := .int .i64 (iand .i64 (ishr .i64 p3 s51) 1)) rfl rfl (by decide) (q_and rfl rfl) ?_
              refine GoOps.q (v := .bool ((iand .i64 (ishr .i64 p3 s51) 1) == 0)) rfl rfl (by decide) (q_eql rfl rfl) ?_
              refine GoOps.nil ?_
              refine join_go 1 (fun ρ (s59 : Unit) => ρ 1 = Sl.v p1 ∧ ρ 2 = Sl.v p2 ∧ ρ 3 = .int .i64 p3 ∧ ρ 11 = .pointer (some a8) ∧ ρ 12 = .pointer y16 ∧ ρ 14 = .pointer y47 ∧ ρ 15 = .int .i64 y50 ∧ ρ 16 = .int .i64 s51) h ?_ ?_ <;> clear h
              · intro s59 H61 ρ h hE
                obtain ⟨e62_1, e62_2, e62_3, e62_11, e62_12, e62_14, e62_15, e62_16⟩ := hE
                refine Go.seq ?_
                refine Go.draw mixed ?_
                refine plan_pure (i := 0) (d := 82) (S2 := 1) (v := .pointer y47) rfl (by decide +kernel) rfl (q_move e62_14) ?_
                refine plan_pure (i := 1) (d := 83) (S2 := 3) (v := .pointer y16) rfl (by decide +kernel) rfl (q_move e62_12) ?_
                refine plan_pure (i := 2) (d := 84) (S2 := 7) (v := .int .i64 s51) rfl (by decide +kernel) rfl (q_move e62_16) ?_
                refine plan_pure (i := 5) (d := 87) (S2 := 39) (v := Sl.v p1) rfl (by decide +kernel) rfl (q_move e62_1) ?_
                refine plan_pure (i := 6) (d := 88) (S2 := 103) (v := .int .i64 s51) rfl (by decide +kernel) rfl (q_move e62_16) ?_
                obtain ⟨a63, ha64, h⟩ := h
                refine plan_pure (i := 7) (d := 89) (S2 := 231) (v := .pointer (some a63)) rfl (by decide +kernel) rfl (q_idx slice30 ha64 rfl rfl) ?_
                obtain ⟨x65, hx66, h⟩ := h
                refine plan_load (i := 8) (d := 90) (S2 := 487) (v := .int .i64 x65) rfl (by decide +kernel) rfl (q_load scalar3 rfl hx66) ?_
                refine plan_pure (i := 9) (d := 91) (S2 := 999) (v := .pointer (some (a8.add 2))) rfl (by decide +kernel) rfl (q_fieldAddr foff32_2 e62_11) ?_
                obtain ⟨x67, hx68, h⟩ := h
                refine plan_load (i := 10) (d := 92) (S2 := 2023) (v := .int .i64 x67) rfl (by decide +kernel) rfl (q_load scalar3 rfl hx68) ?_
                refine plan_one (j := 3) (S2 := 2031) (by decide +kernel) rfl (by decide) rfl ?_
                refine do_call2 body19 (geom_Geom_Seg_s _ _ _ _ h) rfl ?_
                rintro _ H69 ⟨y70, rfl, h⟩
                obtain ⟨hr71, h⟩ := h
                obtain ⟨hr72, h⟩ := h
                refine ⟨_, (.inr ⟨⟨_, _, rfl, rfl, q_load scalar3 rfl hr71⟩, _, rfl, .inr ⟨⟨_, _, rfl, rfl, q_load scalar3 rfl hr72⟩, _, rfl, rfl⟩⟩), ?_⟩
                refine plan_pure (i := 4) (d := 86) (S2 := 2047) (v := .int .i64 (IntKind.wrap .i64 (y70 + 1))) rfl (by decide +kernel) rfl (q_add rfl rfl) ?_
                refine plan_one (j := 11) (S2 := 4095) (by decide +kernel) rfl (by decide) rfl ?_
                refine do_call2 body11 (keelsonalike_Round_s _ _ _ _ h) rfl ?_
                rintro _ H73 ⟨y74, rfl, h⟩
                refine ⟨_, (.inl ⟨⟨[11], by decide +kernel, rfl⟩, .inl ⟨⟨[11], by decide +kernel, rfl⟩, rfl⟩⟩), ?_⟩
                refine plan_one (j := 12) (S2 := 8191) (by decide +kernel) rfl (by decide) rfl ?_
                refine do_call2 body18 (usage_Table_Add_s _ _ _ _ _ h) rfl ?_
                rintro _ H75 ⟨y76, rfl, h⟩
                refine ⟨_, rfl, ?_⟩
                refine plan_done (by decide +kernel) ?_
                refine Go.region rfl ?_
                refine GoOps.q (v := .pointer y47) rfl rfl (by decide) (q_move e62_14) ?_
                refine GoOps.q (v := .int .i64 s51) rfl rfl (by decide) (q_move e62_16) ?_
                refine GoOps.q (v := Sl.v p2) rfl rfl (by decide) (q_move e62_2) ?_
                refine GoOps.q (v := .int .i64 s51) rfl rfl (by decide) (q_move e62_16) ?_
                obtain ⟨a77, ha78, h⟩ := h
                refine GoOps.q (v := .pointer (some a77)) rfl rfl (by decide) (q_idx slice30 ha78 rfl rfl) ?_
                obtain ⟨x79, hx80, h⟩ := h
                refine GoOps.q (v := .int .i64 x79) rfl rfl (by decide) (q_load scalar3 rfl hx80) ?_
                refine GoOps.q (v := .int .i64 y50) rfl rfl (by decide) (q_move e62_15) ?_
                refine GoOps.q (v := .int .i64 (IntKind.wrap .i64 (y50 + 1))) rfl rfl (by decide) (q_add rfl rfl) ?_
                refine call_dst rfl (by decide) body11 (keelsonalike_Round_s _ _ _ _ h) rfl ?_
                rintro _ H81 ⟨y82, rfl, h⟩
                refine call_dst rfl (by decide) body26 (usage_Table_Touch_s _ _ _ _ _ h) rfl ?_
                rintro _ H83 ⟨rfl, h⟩
                refine GoOps.nil ?_
                refine Go.inBlock ?_
                refine Go.region rfl ?_
                refine GoOps.q (v := .int .i64 s51) rfl rfl (by decide) (q_move e62_16) ?_
                refine GoOps.q (v := .int .i64 (IntKind.wrap .i64 (s51 + 1))) rfl rfl (by decide) (q_add rfl rfl) ?_
                refine GoOps.q (v := .int .i64 (IntKind.wrap .i64 (s51 + 1))) rfl rfl (by decide) (q_assign rfl) ?_
                refine GoOps.nil ?_
                exact hagain52 _ _ _ h ⟨e62_1, e62_2, e62_3, e62_11, e62_12, e62_14, e62_15, rfl⟩
              · intro j60 hj60 h
                rcases bor ((iand .i64 (ishr .i64 p3 s51) 1) == 0) with hc84 | hc84
                · have h := h.1 hc84
                  refine Go.condT (btT rfl hc84) ?_
                  refine Go.seq ?_
                  refine Go.region rfl ?_
                  refine GoOps.q (v := .pointer y47) rfl rfl (by decide) (q_move e53_14) ?_
                  refine GoOps.q (v := .int .i64 s51) rfl rfl (by decide) (q_move e53_16) ?_
                  refine call_dst rfl (by decide) body24 (usage_Table_Grab_s _ _ _ _ h) rfl ?_
                  rintro _ H85 ⟨y86, rfl, h⟩
                  refine GoOps.nil ?_
                  refine Go.region rfl ?_
                  refine GoOps.q (v := .pointer y47) rfl rfl (by decide) (q_move e53_14) ?_
                  refine GoOps.q (v := .int .i64 s51) rfl rfl (by decide) (q_move e53_16) ?_
                  refine call_dst rfl (by decide) body25 (usage_Table_Seal_s _ _ _ _ h) rfl ?_
                  rintro _ H87 ⟨rfl, h⟩
                  refine GoOps.nil ?_
                  exact hj60 _ _ _ h ⟨e53_1, e53_2, e53_3, e53_11, e53_12, e53_14, e53_15, e53_16⟩
                · have h := h.2 hc84
                  refine Go.condF (btF rfl hc84) ?_
                  refine Go.skip ?_
                  exact hj60 _ _ _ h ⟨e53_1, e53_2, e53_3, e53_11, e53_12, e53_14, e53_15, e53_16⟩
            · have h := h.2 hc57
              refine Go.condF (btF rfl hc57) ?_
              refine Go.exit rfl ?_
              refine Go.seq ?_
              refine Go.region rfl ?_
              refine GoOps.q (v := .pointer y16) rfl rfl (by decide) (q_move e53_12) ?_
              refine GoOps.q (v := .pointer y47) rfl rfl (by decide) (q_move e53_14) ?_
              refine GoOps.q (v := .int .i64 y50) rfl rfl (by decide) (q_move e53_15) ?_
              refine call_dst rfl (by decide) body22 (victim_Pick_s _ _ _ _ _ h) rfl ?_
              rintro _ H88 ⟨y89, y90, rfl, h⟩
              refine GoOps.q (v := .tuple #[.int .i64 y89, .bool y90]) rfl rfl (by decide) (q_move rfl) ?_
              refine GoOps.q (v := .int .i64 y89) rfl rfl (by decide) (q_extract rfl rfl) ?_
              refine GoOps.q (v := .bool y90) rfl rfl (by decide) (q_extract rfl rfl) ?_
              refine GoOps.q (v := .int .i64 y89) rfl rfl (by decide) (q_assign rfl) ?_
              refine GoOps.q (v := .bool y90) rfl rfl (by decide) (q_assign rfl) ?_
              refine GoOps.nil ?_
              refine Go.seq ?_
              refine Go.region rfl ?_
              refine GoOps.q (v := .bool false) rfl rfl (by decide) (q_assign rfl) ?_
              refine GoOps.nil ?_
              refine Go.seq ?_
              refine Go.seq ?_
              refine Go.region rfl ?_
              refine GoOps.q (v := .int .i64 0) rfl rfl (by decide) (q_assign rfl) ?_
              refine GoOps.nil ?_
              refine Go.block ?_
              refine loop_go (fun ρ (s91 : Bool × Int) => ρ 11 = .pointer (some a8) ∧ ρ 12 = .pointer y16 ∧ ρ 14 = .pointer y47 ∧ ρ 15 = .int .i64 y50 ∧ ρ 17 = .int .i64 y89 ∧ ρ 18 = .bool y90 ∧ ρ 19 = .bool s91.1 ∧ ρ 20 = .int .i64 s91.2) h ⟨e53_11, e53_12, e53_14, e53_15, rfl, rfl, rfl, rfl⟩ ?_
              clear h
              intro ρ s91 H94 again92 hE h hagain92
              obtain ⟨e93_11, e93_12, e93_14, e93_15, e93_17, e93_18, e93_19, e93_20⟩ := hE
              refine Go.seq ?_
              refine Go.seq ?_
              refine Go.region rfl ?_
              refine GoOps.q (v := .int .i64 s91.2) rfl rfl (by decide) (q_move e93_20) ?_
              refine GoOps.q (v := .pointer (some (a8.add 1))) rfl rfl (by decide) (q_fieldAddr foff32_1 e93_11) ?_
              obtain ⟨x95, hx96, h⟩ := h
              refine GoOps.q (v := .int .i64 x95) rfl rfl (by decide) (q_load scalar3 rfl hx96) ?_
              refine GoOps.q (v := .bool (decide (s91.2 < x95))) rfl rfl (by decide) (q_lss rfl rfl) ?_
              refine GoOps.nil ?_
              rcases bor (decide (s91.2 < x95)) with hc97 | hc97
              · have h := h.1 hc97
                refine Go.condT (btT rfl hc97) ?_
                refine Go.skip ?_
                refine Go.seq ?_
                refine join_go 1 (fun ρ (s98 : Bool) => ρ 11 = .pointer (some a8) ∧ ρ 12 = .pointer y16 ∧ ρ 14 = .pointer y47 ∧ ρ 15 = .int .i64 y50 ∧ ρ 17 = .int .i64 y89 ∧ ρ 18 = .bool y90 ∧ ρ 19 = .bool s98 ∧ ρ 20 = .int .i64 s91.2) h ?_ ?_ <;> clear h
                · intro s98 H100 ρ h hE
                  obtain ⟨e101_11, e101_12, e101_14, e101_15, e101_17, e101_18, e101_19, e101_20⟩ := hE
                  refine Go.region rfl ?_
                  refine GoOps.q (v := .int .i64 s91.2) rfl rfl (by decide) (q_move e101_20) ?_
                  refine GoOps.q (v := .int .i64 (IntKind.wrap .i64 (s91.2 + 1))) rfl rfl (by decide) (q_add rfl rfl) ?_
                  refine GoOps.q (v := .int .i64 (IntKind.wrap .i64 (s91.2 + 1))) rfl rfl (by decide) (q_assign rfl) ?_
                  refine GoOps.nil ?_
                  exact hagain92 _ _ _ h ⟨e101_11, e101_12, e101_14, e101_15, e101_17, e101_18, e101_19, rfl⟩
                · intro j99 hj99 h
                  refine Go.block ?_
                  refine Go.seq ?_
                  refine Go.seq ?_
                  refine Go.region rfl ?_
                  refine GoOps.q (v := .pointer y47) rfl rfl (by decide) (q_move e93_14) ?_
                  refine GoOps.q (v := .int .i64 s91.2) rfl rfl (by decide) (q_move e93_20) ?_
                  refine call_dst rfl (by decide) body27 (usage_Table_State_s _ _ _ _ h) rfl ?_
                  rintro _ H102 ⟨y103, rfl, h⟩
                  refine GoOps.q (v := .bool (y103 != 2)) rfl rfl (by decide) (q_neq rfl rfl) ?_
                  refine GoOps.q (v := .bool (y103 != 2)) rfl rfl (by decide) (q_move rfl) ?_
                  refine join_ops 5 (fun ρ (s105 : Bool) => ρ 11 = .pointer (some a8) ∧ ρ 12 = .pointer y16 ∧ ρ 14 = .pointer y47 ∧ ρ 15 = .int .i64 y50 ∧ ρ 17 = .int .i64 y89 ∧ ρ 18 = .bool y90 ∧ ρ 19 = .bool s91.1 ∧ ρ 20 = .int .i64 s91.2 ∧ ρ 127 = .bool s105) h ?_ ?_ <;> clear h
                  · intro s105 H107 ρ h hE
                    obtain ⟨e108_11, e108_12, e108_14, e108_15, e108_17, e108_18, e108_19, e108_20, e108_127⟩ := hE
                    refine GoOps.q (v := .bool s105) rfl rfl (by decide) (q_move e108_127) ?_
                    refine join_ops 7 (fun ρ (s110 : Bool) => ρ 11 = .pointer (some a8) ∧ ρ 12 = .pointer y16 ∧ ρ 14 = .pointer y47 ∧ ρ 15 = .int .i64 y50 ∧ ρ 17 = .int .i64 y89 ∧ ρ 18 = .bool y90 ∧ ρ 19 = .bool s91.1 ∧ ρ 20 = .int .i64 s91.2 ∧ ρ 135 = .bool s110) h ?_ ?_ <;> clear h
                    · intro s110 H112 ρ h hE
                      obtain ⟨e113_11, e113_12, e113_14, e113_15, e113_17, e113_18, e113_19, e113_20, e113_135⟩ := hE
                      refine GoOps.nil ?_
                      rcases bor s110 with hc114 | hc114
                      · have h := h.1 hc114
                        refine Go.condT (btT e113_135 hc114) ?_
                        refine Go.seq ?_
                        refine Go.seq ?_
                        refine Go.region rfl ?_
                        refine GoOps.q (v := .bool y90) rfl rfl (by decide) (q_move e113_18) ?_
                        refine GoOps.q (v := .bool y90) rfl rfl (by decide) (q_move rfl) ?_
                        refine join_ops 4 (fun ρ (s116 : Bool) => ρ 11 = .pointer (some a8) ∧ ρ 12 = .pointer y16 ∧ ρ 14 = .pointer y47 ∧ ρ 15 = .int .i64 y50 ∧ ρ 17 = .int .i64 y89 ∧ ρ 18 = .bool y90 ∧ ρ 19 = .bool s91.1 ∧ ρ 20 = .int .i64 s91.2 ∧ ρ 141 = .bool s116) h ?_ ?_ <;> clear h
                        · intro s116 H118 ρ h hE
                          obtain ⟨e119_11, e119_12, e119_14, e119_15, e119_17, e119_18, e119_19, e119_20, e119_141⟩ := hE
                          refine GoOps.nil ?_
                          rcases bor s116 with hc120 | hc120
                          · have h := h.1 hc120
                            refine Go.condT (btT e119_141 hc120) ?_
                            refine Go.seq ?_
                            refine Go.region rfl ?_
                            refine GoOps.q (v := .bool false) rfl rfl (by decide) (q_assign rfl) ?_
                            refine GoOps.nil ?_
                            exact Go.ret ⟨.inl rfl, _, _, DOk.nil, (resOk1 Try.results7 rfl), ⟨_, rfl, h⟩⟩
                          · have h := h.2 hc120
                            refine Go.condF (btF e119_141 hc120) ?_
                            refine Go.skip ?_
                            refine Go.exit rfl ?_
                            exact hj99 _ _ _ h ⟨e119_11, e119_12, e119_14, e119_15, e119_17, e119_18, e119_19, e119_20⟩
                        · intro j117 hj117 h
                          rcases bor y90 with hc115 | hc115
                          · have h := h.1 hc115
                            refine GoOps.q (v := .int .i64 s91.2) (want_yes rfl rfl rfl hc115) rfl (by decide) (q_move e113_20) ?_
                            refine GoOps.q (v := .int .i64 y89) (want_yes rfl rfl rfl hc115) rfl (by decide) (q_move e113_17) ?_
                            refine GoOps.q (v := .bool (s91.2 == y89)) (want_yes rfl rfl rfl hc115) rfl (by decide) (q_eql rfl rfl) ?_
                            refine GoOps.q (v := .bool (s91.2 == y89)) rfl rfl (by decide) (q_pickT (btT rfl hc115) rfl) ?_
                            exact hj117 (s91.2 == y89) _ _ h (by exact ⟨e113_11, e113_12, e113_14, e113_15, e113_17, e113_18, e113_19, e113_20, rfl⟩)
                          · have h := h.2 hc115
                            refine no_dst (want_no rfl rfl rfl hc115) rfl (by decide) ?_
                            refine no_dst (want_no rfl rfl rfl hc115) rfl (by decide) ?_
                            refine no_dst (want_no rfl rfl rfl hc115) rfl (by decide) ?_
                            refine GoOps.q (v := .bool false) rfl rfl (by decide) (q_pickF (btF rfl hc115) rfl) ?_
                            exact hj117 false _ _ h (by exact ⟨e113_11, e113_12, e113_14, e113_15, e113_17, e113_18, e113_19, e113_20, rfl⟩)
                      · have h := h.2 hc114
                        refine Go.condF (btF e113_135 hc114) ?_
                        refine Go.skip ?_
                        refine Go.seq ?_
                        refine Go.region rfl ?_
                        refine GoOps.q (v := .bool true) rfl rfl (by decide) (q_assign rfl) ?_
                        refine GoOps.nil ?_
                        refine Go.seq ?_
                        refine join_go 1 (fun ρ (s121 : Addr) => ρ 11 = .pointer (some a8) ∧ ρ 12 = .pointer y16 ∧ ρ 14 = .pointer y47 ∧ ρ 15 = .int .i64 y50 ∧ ρ 17 = .int .i64 y89 ∧ ρ 18 = .bool y90 ∧ ρ 19 = .bool true ∧ ρ 20 = .int .i64 s91.2 ∧ ρ 21 = .pointer (some s121)) h ?_ ?_ <;> clear h
                        · intro s121 H123 ρ h hE
                          obtain ⟨e124_11, e124_12, e124_14, e124_15, e124_17, e124_18, e124_19, e124_20, e124_21⟩ := hE
                          refine Go.seq ?_
                          refine join_go 1 (fun ρ (s125 : Addr) => ρ 11 = .pointer (some a8) ∧ ρ 12 = .pointer y16 ∧ ρ 14 = .pointer y47 ∧ ρ 15 = .int .i64 y50 ∧ ρ 17 = .int .i64 y89 ∧ ρ 18 = .bool y90 ∧ ρ 19 = .bool true ∧ ρ 20 = .int .i64 s91.2 ∧ ρ 21 = .pointer (some s121) ∧ ρ 22 = .pointer (some s125)) h ?_ ?_ <;> clear h
                          · intro s125 H127 ρ h hE
                            obtain ⟨e128_11, e128_12, e128_14, e128_15, e128_17, e128_18, e128_19, e128_20, e128_21, e128_22⟩ := hE
                            refine Go.seq ?_
                            refine Go.region rfl ?_
                            refine GoOps.q (v := .bool y90) rfl rfl (by decide) (q_move e128_18) ?_
                            refine GoOps.q (v := .bool y90) rfl rfl (by decide) (q_move rfl) ?_
                            refine join_ops 4 (fun ρ (s130 : Bool) => ρ 11 = .pointer (some a8) ∧ ρ 12 = .pointer y16 ∧ ρ 14 = .pointer y47 ∧ ρ 15 = .int .i64 y50 ∧ ρ 17 = .int .i64 y89 ∧ ρ 18 = .bool y90 ∧ ρ 19 = .bool true ∧ ρ 20 = .int .i64 s91.2 ∧ ρ 181 = .bool s130) h ?_ ?_ <;> clear h
                            · intro s130 H132 ρ h hE
                              obtain ⟨e133_11, e133_12, e133_14, e133_15, e133_17, e133_18, e133_19, e133_20, e133_181⟩ := hE
                              refine GoOps.nil ?_
                              rcases bor s130 with hc134 | hc134
                              · have h := h.1 hc134
                                refine Go.condT (btT e133_181 hc134) ?_
                                refine Go.seq ?_
                                refine Go.region rfl ?_
                                refine GoOps.q (v := .bool false) rfl rfl (by decide) (q_assign rfl) ?_
                                refine GoOps.nil ?_
                                exact Go.ret ⟨.inl rfl, _, _, DOk.nil, (resOk1 Try.results7 rfl), ⟨_, rfl, h⟩⟩
                              · have h := h.2 hc134
                                refine Go.condF (btF e133_181 hc134) ?_
                                refine Go.skip ?_
                                refine Go.inBlock ?_
                                exact hj99 _ _ _ h ⟨e133_11, e133_12, e133_14, e133_15, e133_17, e133_18, e133_19, e133_20⟩
                            · intro j131 hj131 h
                              rcases bor y90 with hc129 | hc129
                              · have h := h.1 hc129
                                obtain ⟨x135, hx136, h⟩ := h
                                refine GoOps.q (v := .agg ([.int .i64 x135.1, .int .i64 x135.2.1, .int .i64 x135.2.2] : List Value).toArray) (want_yes rfl rfl rfl hc129) rfl (by decide) (q_loadA aggr27 e128_21 hx136) ?_
                                obtain ⟨x137, hx138, h⟩ := h
                                refine GoOps.q (v := .agg ([.int .i64 x137.1, .int .i64 x137.2.1, .int .i64 x137.2.2] : List Value).toArray) (want_yes rfl rfl rfl hc129) rfl (by decide) (q_loadA aggr27 e128_22 hx138) ?_
                                refine call_dst (want_yes rfl rfl rfl hc129) (by decide) body12 (victim_Better_s _ _ _ _ h) rfl ?_
                                rintro _ H139 ⟨y140, rfl, h⟩
                                refine GoOps.q (v := .bool y140) rfl rfl (by decide) (q_pickT (btT rfl hc129) rfl) ?_
                                exact hj131 y140 _ _ h (by exact ⟨e128_11, e128_12, e128_14, e128_15, e128_17, e128_18, e128_19, e128_20, rfl⟩)
                              · have h := h.2 hc129
                                refine no_dst (want_no rfl rfl rfl hc129) rfl (by decide) ?_
                                refine no_dst (want_no rfl rfl rfl hc129) rfl (by decide) ?_
                                refine no_dst (want_no rfl rfl rfl hc129) rfl (by decide) ?_
                                refine GoOps.q (v := .bool false) rfl rfl (by decide) (q_pickF (btF rfl hc129) rfl) ?_
                                exact hj131 false _ _ h (by exact ⟨e128_11, e128_12, e128_14, e128_15, e128_17, e128_18, e128_19, e128_20, rfl⟩)
                          · intro j126 hj126 h
                            refine Go.draw mixed ?_
                            refine plan_pure (i := 0) (d := 159) (S2 := 1) (v := .pointer y47) rfl (by decide +kernel) rfl (q_move e124_14) ?_
                            refine plan_pure (i := 1) (d := 160) (S2 := 3) (v := .int .i64 y89) rfl (by decide +kernel) rfl (q_move e124_17) ?_
                            refine plan_pure (i := 3) (d := 162) (S2 := 11) (v := .int .i64 y50) rfl (by decide +kernel) rfl (q_move e124_15) ?_
                            refine plan_pure (i := 4) (d := 163) (S2 := 27) (v := .pointer y47) rfl (by decide +kernel) rfl (q_move e124_14) ?_
                            refine plan_pure (i := 5) (d := 164) (S2 := 59) (v := .int .i64 y89) rfl (by decide +kernel) rfl (q_move e124_17) ?_
                            refine plan_pure (i := 8) (d := 167) (S2 := 315) (v := .pointer (some (a8.add 2))) rfl (by decide +kernel) rfl (q_fieldAddr foff32_2 e124_11) ?_
                            obtain ⟨x141, hx142, h⟩ := h
                            refine plan_load (i := 9) (d := 168) (S2 := 827) (v := .int .i64 x141) rfl (by decide +kernel) rfl (q_load scalar3 rfl hx142) ?_
                            refine plan_pure (i := 10) (d := 169) (S2 := 1851) (v := .int .i64 (IntKind.wrap .i64 (x141 - 2))) rfl (by decide +kernel) rfl (q_sub rfl rfl) ?_
                            refine plan_pure (i := 12) (d := 171) (S2 := 5947) (v := .pointer y47) rfl (by decide +kernel) rfl (q_move e124_14) ?_
                            refine plan_pure (i := 13) (d := 172) (S2 := 14139) (v := .int .i64 y89) rfl (by decide +kernel) rfl (q_move e124_17) ?_
                            refine plan_pure (i := 15) (d := 174) (S2 := 46907) (v := .int .i64 y89) rfl (by decide +kernel) rfl (q_move e124_17) ?_
                            refine plan_step (R := [2, 17]) (by decide +kernel) ⟨?_, ?_, trivial⟩
                            · refine pstep_yes (S2 := 46911) rfl (by decide +kernel) (by decide) rfl ?_
                              refine do_call2 body28 (usage_Table_Live_s _ _ _ _ h) rfl ?_
                              rintro _ H143 ⟨y144, rfl, h⟩
                              obtain ⟨hr145, h⟩ := h
                              refine ⟨_, (.inr ⟨⟨_, _, rfl, rfl, q_load scalar3 rfl hr145⟩, _, rfl, rfl⟩), ?_⟩
                              refine plan_step (R := [6, 17]) (by decide +kernel) ⟨?_, ?_, trivial⟩
                              · refine pstep_yes (S2 := 46975) rfl (by decide +kernel) (by decide) rfl ?_
                                refine do_call2 body30 (usage_Table_Stamp_s _ _ _ _ h) rfl ?_
                                rintro _ H146 ⟨y147, rfl, h⟩
                                obtain ⟨hr148, h⟩ := h
                                refine ⟨_, (.inr ⟨⟨_, _, rfl, rfl, q_load scalar3 rfl hr148⟩, _, rfl, rfl⟩), ?_⟩
                                refine plan_pure (i := 7) (d := 166) (S2 := 47103) (v := .int .i64 (IntKind.wrap .i64 (y50 - y147))) rfl (by decide +kernel) rfl (q_sub rfl rfl) ?_
                                refine plan_step (R := [11, 17]) (by decide +kernel) ⟨?_, ?_, trivial⟩
                                · refine pstep_yes (S2 := 49151) rfl (by decide +kernel) (by decide) rfl ?_
                                  refine do_call2 body8 (victim_Score_s _ _ _ _ _ h) rfl ?_
                                  rintro _ H149 ⟨y150, rfl, h⟩
                                  refine ⟨_, (.inl ⟨⟨[10, 11], by decide +kernel, rfl⟩, rfl⟩), ?_⟩
                                  refine plan_step (R := [14, 17]) (by decide +kernel) ⟨?_, ?_, trivial⟩
                                  · refine pstep_yes (S2 := 65535) rfl (by decide +kernel) (by decide) rfl ?_
                                    refine do_call2 body28 (usage_Table_Live_s _ _ _ _ h) rfl ?_
                                    rintro _ H151 ⟨y152, rfl, h⟩
                                    refine ⟨_, rfl, ?_⟩
                                    refine plan_pure (i := 16) (d := 175) (S2 := 131071) (v := .agg ([.int .i64 y150, .int .i64 y152, .int .i64 y89] : List Value).toArray) rfl (by decide +kernel) rfl (q_buildA (ps := [(0, .int .i64 y150), (1, .int .i64 y152), (2, .int .i64 y89)]) (cs := [.int .i64 y150, .int .i64 y152, .int .i64 y89]) array27 zero27 rfl rfl rfl) ?_
                                    refine plan_one (j := 17) (S2 := 262143) (by decide +kernel) rfl (by decide) rfl ?_
                                    refine do_new zero27 rfl fun a153 H154 hb155 => ?_
                                    have h := h a153 H154 hb155
                                    refine ⟨_, rfl, ?_⟩
                                    refine plan_one (j := 18) (S2 := 524287) (by decide +kernel) rfl (by decide) rfl ?_
                                    obtain ⟨q157b, q157o, q157c, q157e, hq157a, hq157b, hq157l, hq157v, h⟩ := h
                                    refine do_store (vs := [.int .i64 y150, .int .i64 y152, .int .i64 y89]) size27 (pta rfl hq157a) rfl rfl rfl hq157v hq157b hq157l ?_
                                    refine ⟨_, rfl, ?_⟩
                                    refine plan_done (by decide +kernel) ?_
                                    exact hj126 _ _ _ h ⟨e124_11, e124_12, e124_14, e124_15, e124_17, e124_18, e124_19, e124_20, e124_21, rfl⟩
                                  · refine pstep_yes (S2 := 180223) rfl (by decide +kernel) (by decide) rfl ?_
                                    refine do_newT zero27 rfl fun b162 a161 hHb162 hTb162 hrb162 => ?_
                                    refine ⟨_, rfl, ?_⟩
                                    refine plan_one (j := 14) (S2 := 196607) (by decide +kernel) rfl (by decide) rfl ?_
                                    refine do_call2 body28 (usage_Table_Live_s _ _ _ _ h) rfl ?_
                                    rintro _ H163 ⟨y164, rfl, h⟩
                                    refine ⟨_, rfl, ?_⟩
                                    refine plan_pure (i := 16) (d := 175) (S2 := 262143) (v := .agg ([.int .i64 y150, .int .i64 y164, .int .i64 y89] : List Value).toArray) rfl (by decide +kernel) rfl (q_buildA (ps := [(0, .int .i64 y150), (1, .int .i64 y164), (2, .int .i64 y89)]) (cs := [.int .i64 y150, .int .i64 y164, .int .i64 y89]) array27 zero27 rfl rfl rfl) ?_
                                    refine plan_commit hTb162 fun hh166 => ?_
                                    have h := h a161 _ ⟨b162, hh166, hrb162, rfl⟩
                                    refine plan_one (j := 18) (S2 := 524287) (by decide +kernel) rfl (by decide) rfl ?_
                                    obtain ⟨q168b, q168o, q168c, q168e, hq168a, hq168b, hq168l, hq168v, h⟩ := h
                                    refine do_store (vs := [.int .i64 y150, .int .i64 y164, .int .i64 y89]) size27 (pta rfl hq168a) rfl rfl rfl hq168v hq168b hq168l ?_
                                    refine ⟨_, rfl, ?_⟩
                                    refine plan_done (by decide +kernel) ?_
                                    exact hj126 _ _ _ h ⟨e124_11, e124_12, e124_14, e124_15, e124_17, e124_18, e124_19, e124_20, e124_21, rfl⟩
                                · refine pstep_yes (S2 := 178175) rfl (by decide +kernel) (by decide) rfl ?_
                                  refine do_newT zero27 rfl fun b173 a172 hHb173 hTb173 hrb173 => ?_
                                  refine ⟨_, (.inr ⟨⟨_, _, rfl, rfl, q_load scalar3 rfl hr148⟩, _, rfl, rfl⟩), ?_⟩
                                  refine plan_one (j := 11) (S2 := 180223) (by decide +kernel) rfl (by decide) rfl ?_
                                  refine do_call2 body8 (victim_Score_s _ _ _ _ _ h) rfl ?_
                                  rintro _ H174 ⟨y175, rfl, h⟩
                                  refine ⟨_, (.inl ⟨⟨[10, 11], by decide +kernel, rfl⟩, rfl⟩), ?_⟩
                                  refine plan_one (j := 14) (S2 := 196607) (by decide +kernel) rfl (by decide) rfl ?_
                                  refine do_call2 body28 (usage_Table_Live_s _ _ _ _ h) rfl ?_
                                  rintro _ H176 ⟨y177, rfl, h⟩
                                  refine ⟨_, rfl, ?_⟩
                                  refine plan_pure (i := 16) (d := 175) (S2 := 262143) (v := .agg ([.int .i64 y175, .int .i64 y177, .int .i64 y89] : List Value).toArray) rfl (by decide +kernel) rfl (q_buildA (ps := [(0, .int .i64 y175), (1, .int .i64 y177), (2, .int .i64 y89)]) (cs := [.int .i64 y175, .int .i64 y177, .int .i64 y89]) array27 zero27 rfl rfl rfl) ?_
                                  refine plan_commit hTb173 fun hh179 => ?_
                                  have h := h a172 _ ⟨b173, hh179, hrb173, rfl⟩
                                  refine plan_one (j := 18) (S2 := 524287) (by decide +kernel) rfl (by decide) rfl ?_
                                  obtain ⟨q181b, q181o, q181c, q181e, hq181a, hq181b, hq181l, hq181v, h⟩ := h
                                  refine do_store (vs := [.int .i64 y175, .int .i64 y177, .int .i64 y89]) size27 (pta rfl hq181a) rfl rfl rfl hq181v hq181b hq181l ?_
                                  refine ⟨_, rfl, ?_⟩
                                  refine plan_done (by decide +kernel) ?_
                                  exact hj126 _ _ _ h ⟨e124_11, e124_12, e124_14, e124_15, e124_17, e124_18, e124_19, e124_20, e124_21, rfl⟩
                              · refine pstep_yes (S2 := 177983) rfl (by decide +kernel) (by decide) rfl ?_
                                refine do_newT zero27 rfl fun b186 a185 hHb186 hTb186 hrb186 => ?_
                                refine ⟨_, (.inr ⟨⟨_, _, rfl, rfl, q_load scalar3 rfl hr145⟩, _, rfl, rfl⟩), ?_⟩
                                refine plan_one (j := 6) (S2 := 178047) (by decide +kernel) rfl (by decide) rfl ?_
                                refine do_call2 body30 (usage_Table_Stamp_s _ _ _ _ h) rfl ?_
                                rintro _ H187 ⟨y188, rfl, h⟩
                                obtain ⟨hr189, h⟩ := h
                                refine ⟨_, (.inr ⟨⟨_, _, rfl, rfl, q_load scalar3 rfl hr189⟩, _, rfl, rfl⟩), ?_⟩
                                refine plan_pure (i := 7) (d := 166) (S2 := 178175) (v := .int .i64 (IntKind.wrap .i64 (y50 - y188))) rfl (by decide +kernel) rfl (q_sub rfl rfl) ?_
                                refine plan_one (j := 11) (S2 := 180223) (by decide +kernel) rfl (by decide) rfl ?_
                                refine do_call2 body8 (victim_Score_s _ _ _ _ _ h) rfl ?_
                                rintro _ H190 ⟨y191, rfl, h⟩
                                refine ⟨_, (.inl ⟨⟨[10, 11], by decide +kernel, rfl⟩, rfl⟩), ?_⟩
                                refine plan_one (j := 14) (S2 := 196607) (by decide +kernel) rfl (by decide) rfl ?_
                                refine do_call2 body28 (usage_Table_Live_s _ _ _ _ h) rfl ?_
                                rintro _ H192 ⟨y193, rfl, h⟩
                                refine ⟨_, rfl, ?_⟩
                                refine plan_pure (i := 16) (d := 175) (S2 := 262143) (v := .agg ([.int .i64 y191, .int .i64 y193, .int .i64 y89] : List Value).toArray) rfl (by decide +kernel) rfl (q_buildA (ps := [(0, .int .i64 y191), (1, .int .i64 y193), (2, .int .i64 y89)]) (cs := [.int .i64 y191, .int .i64 y193, .int .i64 y89]) array27 zero27 rfl rfl rfl) ?_
                                refine plan_commit hTb186 fun hh195 => ?_
                                have h := h a185 _ ⟨b186, hh195, hrb186, rfl⟩
                                refine plan_one (j := 18) (S2 := 524287) (by decide +kernel) rfl (by decide) rfl ?_
                                obtain ⟨q197b, q197o, q197c, q197e, hq197a, hq197b, hq197l, hq197v, h⟩ := h
                                refine do_store (vs := [.int .i64 y191, .int .i64 y193, .int .i64 y89]) size27 (pta rfl hq197a) rfl rfl rfl hq197v hq197b hq197l ?_
                                refine ⟨_, rfl, ?_⟩
                                refine plan_done (by decide +kernel) ?_
                                exact hj126 _ _ _ h ⟨e124_11, e124_12, e124_14, e124_15, e124_17, e124_18, e124_19, e124_20, e124_21, rfl⟩
                            · refine pstep_yes (S2 := 177979) rfl (by decide +kernel) (by decide) rfl ?_
                              refine do_newT zero27 rfl fun b202 a201 hHb202 hTb202 hrb202 => ?_
                              refine ⟨_, (.inr ⟨⟨_, _, rfl, rfl, q_load scalar3 rfl hx142⟩, _, rfl, rfl⟩), ?_⟩
                              refine plan_one (j := 2) (S2 := 177983) (by decide +kernel) rfl (by decide) rfl ?_
                              refine do_call2 body28 (usage_Table_Live_s _ _ _ _ h) rfl ?_
                              rintro _ H203 ⟨y204, rfl, h⟩
                              obtain ⟨hr205, h⟩ := h
                              refine ⟨_, (.inr ⟨⟨_, _, rfl, rfl, q_load scalar3 rfl hr205⟩, _, rfl, rfl⟩), ?_⟩
                              refine plan_one (j := 6) (S2 := 178047) (by decide +kernel) rfl (by decide) rfl ?_
                              refine do_call2 body30 (usage_Table_Stamp_s _ _ _ _ h) rfl ?_
                              rintro _ H206 ⟨y207, rfl, h⟩
                              obtain ⟨hr208, h⟩ := h
                              refine ⟨_, (.inr ⟨⟨_, _, rfl, rfl, q_load scalar3 rfl hr208⟩, _, rfl, rfl⟩), ?_⟩
                              refine plan_pure (i := 7) (d := 166) (S2 := 178175) (v := .int .i64 (IntKind.wrap .i64 (y50 - y207))) rfl (by decide +kernel) rfl (q_sub rfl rfl) ?_
                              refine plan_one (j := 11) (S2 := 180223) (by decide +kernel) rfl (by decide) rfl ?_
                              refine do_call2 body8 (victim_Score_s _ _ _ _ _ h) rfl ?_
                              rintro _ H209 ⟨y210, rfl, h⟩
                              refine ⟨_, (.inl ⟨⟨[10, 11], by decide +kernel, rfl⟩, rfl⟩), ?_⟩
                              refine plan_one (j := 14) (S2 := 196607) (by decide +kernel) rfl (by decide) rfl ?_
                              refine do_call2 body28 (usage_Table_Live_s _ _ _ _ h) rfl ?_
                              rintro _ H211 ⟨y212, rfl, h⟩
                              refine ⟨_, rfl, ?_⟩
                              refine plan_pure (i := 16) (d := 175) (S2 := 262143) (v := .agg ([.int .i64 y210, .int .i64 y212, .int .i64 y89] : List Value).toArray) rfl (by decide +kernel) rfl (q_buildA (ps := [(0, .int .i64 y210), (1, .int .i64 y212), (2, .int .i64 y89)]) (cs := [.int .i64 y210, .int .i64 y212, .int .i64 y89]) array27 zero27 rfl rfl rfl) ?_
                              refine plan_commit hTb202 fun hh214 => ?_
                              have h := h a201 _ ⟨b202, hh214, hrb202, rfl⟩
                              refine plan_one (j := 18) (S2 := 524287) (by decide +kernel) rfl (by decide) rfl ?_
                              obtain ⟨q216b, q216o, q216c, q216e, hq216a, hq216b, hq216l, hq216v, h⟩ := h
                              refine do_store (vs := [.int .i64 y210, .int .i64 y212, .int .i64 y89]) size27 (pta rfl hq216a) rfl rfl rfl hq216v hq216b hq216l ?_
                              refine ⟨_, rfl, ?_⟩
                              refine plan_done (by decide +kernel) ?_
                              exact hj126 _ _ _ h ⟨e124_11, e124_12, e124_14, e124_15, e124_17, e124_18, e124_19, e124_20, e124_21, rfl⟩
                        · intro j122 hj122 h
                          refine Go.draw mixed ?_
                          refine plan_pure (i := 0) (d := 142) (S2 := 1) (v := .pointer y47) rfl (by decide +kernel) rfl (q_move e113_14) ?_
                          refine plan_pure (i := 1) (d := 143) (S2 := 3) (v := .int .i64 s91.2) rfl (by decide +kernel) rfl (q_move e113_20) ?_
                          refine plan_pure (i := 3) (d := 145) (S2 := 11) (v := .int .i64 y50) rfl (by decide +kernel) rfl (q_move e113_15) ?_
                          refine plan_pure (i := 4) (d := 146) (S2 := 27) (v := .pointer y47) rfl (by decide +kernel) rfl (q_move e113_14) ?_
                          refine plan_pure (i := 5) (d := 147) (S2 := 59) (v := .int .i64 s91.2) rfl (by decide +kernel) rfl (q_move e113_20) ?_
                          refine plan_pure (i := 8) (d := 150) (S2 := 315) (v := .pointer (some (a8.add 2))) rfl (by decide +kernel) rfl (q_fieldAddr foff32_2 e113_11) ?_
                          obtain ⟨x217, hx218, h⟩ := h
                          refine plan_load (i := 9) (d := 151) (S2 := 827) (v := .int .i64 x217) rfl (by decide +kernel) rfl (q_load scalar3 rfl hx218) ?_
                          refine plan_pure (i := 10) (d := 152) (S2 := 1851) (v := .int .i64 (IntKind.wrap .i64 (x217 - 2))) rfl (by decide +kernel) rfl (q_sub rfl rfl) ?_
                          refine plan_pure (i := 12) (d := 154) (S2 := 5947) (v := .pointer y47) rfl (by decide +kernel) rfl (q_move e113_14) ?_
                          refine plan_pure (i := 13) (d := 155) (S2 := 14139) (v := .int .i64 s91.2) rfl (by decide +kernel) rfl (q_move e113_20) ?_
                          refine plan_pure (i := 15) (d := 157) (S2 := 46907) (v := .int .i64 s91.2) rfl (by decide +kernel) rfl (q_move e113_20) ?_
                          refine plan_step (R := [2, 17]) (by decide +kernel) ⟨?_, ?_, trivial⟩
                          · refine pstep_yes (S2 := 46911) rfl (by decide +kernel) (by decide) rfl ?_
                            refine do_call2 body28 (usage_Table_Live_s _ _ _ _ h) rfl ?_
                            rintro _ H219 ⟨y220, rfl, h⟩
                            obtain ⟨hr221, h⟩ := h
                            refine ⟨_, (.inr ⟨⟨_, _, rfl, rfl, q_load scalar3 rfl hr221⟩, _, rfl, rfl⟩), ?_⟩
                            refine plan_step (R := [6, 17]) (by decide +kernel) ⟨?_, ?_, trivial⟩
                            · refine pstep_yes (S2 := 46975) rfl (by decide +kernel) (by decide) rfl ?_
                              refine do_call2 body30 (usage_Table_Stamp_s _ _ _ _ h) rfl ?_
                              rintro _ H222 ⟨y223, rfl, h⟩
                              obtain ⟨hr224, h⟩ := h
                              refine ⟨_, (.inr ⟨⟨_, _, rfl, rfl, q_load scalar3 rfl hr224⟩, _, rfl, rfl⟩), ?_⟩
                              refine plan_pure (i := 7) (d := 149) (S2 := 47103) (v := .int .i64 (IntKind.wrap .i64 (y50 - y223))) rfl (by decide +kernel) rfl (q_sub rfl rfl) ?_
                              refine plan_step (R := [11, 17]) (by decide +kernel) ⟨?_, ?_, trivial⟩
                              · refine pstep_yes (S2 := 49151) rfl (by decide +kernel) (by decide) rfl ?_
                                refine do_call2 body8 (victim_Score_s _ _ _ _ _ h) rfl ?_
                                rintro _ H225 ⟨y226, rfl, h⟩
                                refine ⟨_, (.inl ⟨⟨[10, 11], by decide +kernel, rfl⟩, rfl⟩), ?_⟩
                                refine plan_step (R := [14, 17]) (by decide +kernel) ⟨?_, ?_, trivial⟩
                                · refine pstep_yes (S2 := 65535) rfl (by decide +kernel) (by decide) rfl ?_
                                  refine do_call2 body28 (usage_Table_Live_s _ _ _ _ h) rfl ?_
                                  rintro _ H227 ⟨y228, rfl, h⟩
                                  refine ⟨_, rfl, ?_⟩
                                  refine plan_pure (i := 16) (d := 158) (S2 := 131071) (v := .agg ([.int .i64 y226, .int .i64 y228, .int .i64 s91.2] : List Value).toArray) rfl (by decide +kernel) rfl (q_buildA (ps := [(0, .int .i64 y226), (1, .int .i64 y228), (2, .int .i64 s91.2)]) (cs := [.int .i64 y226, .int .i64 y228, .int .i64 s91.2]) array27 zero27 rfl rfl rfl) ?_
                                  refine plan_one (j := 17) (S2 := 262143) (by decide +kernel) rfl (by decide) rfl ?_
                                  refine do_new zero27 rfl fun a229 H230 hb231 => ?_
                                  have h := h a229 H230 hb231
                                  refine ⟨_, rfl, ?_⟩
                                  refine plan_one (j := 18) (S2 := 524287) (by decide +kernel) rfl (by decide) rfl ?_
                                  obtain ⟨q233b, q233o, q233c, q233e, hq233a, hq233b, hq233l, hq233v, h⟩ := h
                                  refine do_store (vs := [.int .i64 y226, .int .i64 y228, .int .i64 s91.2]) size27 (pta rfl hq233a) rfl rfl rfl hq233v hq233b hq233l ?_
                                  refine ⟨_, rfl, ?_⟩
                                  refine plan_done (by decide +kernel) ?_
                                  exact hj122 _ _ _ h ⟨e113_11, e113_12, e113_14, e113_15, e113_17, e113_18, rfl, e113_20, rfl⟩
                                · refine pstep_yes (S2 := 180223) rfl (by decide +kernel) (by decide) rfl ?_
                                  refine do_newT zero27 rfl fun b238 a237 hHb238 hTb238 hrb238 => ?_
                                  refine ⟨_, rfl, ?_⟩
                                  refine plan_one (j := 14) (S2 := 196607) (by decide +kernel) rfl (by decide) rfl ?_
                                  refine do_call2 body28 (usage_Table_Live_s _ _ _ _ h) rfl ?_
                                  rintro _ H239 ⟨y240, rfl, h⟩
                                  refine ⟨_, rfl, ?_⟩
                                  refine plan_pure (i := 16) (d := 158) (S2 := 262143) (v := .agg ([.int .i64 y226, .int .i64 y240, .int .i64 s91.2] : List Value).toArray) rfl (by decide +kernel) rfl (q_buildA (ps := [(0, .int .i64 y226), (1, .int .i64 y240), (2, .int .i64 s91.2)]) (cs := [.int .i64 y226, .int .i64 y240, .int .i64 s91.2]) array27 zero27 rfl rfl rfl) ?_
                                  refine plan_commit hTb238 fun hh242 => ?_
                                  have h := h a237 _ ⟨b238, hh242, hrb238, rfl⟩
                                  refine plan_one (j := 18) (S2 := 524287) (by decide +kernel) rfl (by decide) rfl ?_
                                  obtain ⟨q244b, q244o, q244c, q244e, hq244a, hq244b, hq244l, hq244v, h⟩ := h
                                  refine do_store (vs := [.int .i64 y226, .int .i64 y240, .int .i64 s91.2]) size27 (pta rfl hq244a) rfl rfl rfl hq244v hq244b hq244l ?_
                                  refine ⟨_, rfl, ?_⟩
                                  refine plan_done (by decide +kernel) ?_
                                  exact hj122 _ _ _ h ⟨e113_11, e113_12, e113_14, e113_15, e113_17, e113_18, rfl, e113_20, rfl⟩
                              · refine pstep_yes (S2 := 178175) rfl (by decide +kernel) (by decide) rfl ?_
                                refine do_newT zero27 rfl fun b249 a248 hHb249 hTb249 hrb249 => ?_
                                refine ⟨_, (.inr ⟨⟨_, _, rfl, rfl, q_load scalar3 rfl hr224⟩, _, rfl, rfl⟩), ?_⟩
                                refine plan_one (j := 11) (S2 := 180223) (by decide +kernel) rfl (by decide) rfl ?_
                                refine do_call2 body8 (victim_Score_s _ _ _ _ _ h) rfl ?_
                                rintro _ H250 ⟨y251, rfl, h⟩
                                refine ⟨_, (.inl ⟨⟨[10, 11], by decide +kernel, rfl⟩, rfl⟩), ?_⟩
                                refine plan_one (j := 14) (S2 := 196607) (by decide +kernel) rfl (by decide) rfl ?_
                                refine do_call2 body28 (usage_Table_Live_s _ _ _ _ h) rfl ?_
                                rintro _ H252 ⟨y253, rfl, h⟩
                                refine ⟨_, rfl, ?_⟩
                                refine plan_pure (i := 16) (d := 158) (S2 := 262143) (v := .agg ([.int .i64 y251, .int .i64 y253, .int .i64 s91.2] : List Value).toArray) rfl (by decide +kernel) rfl (q_buildA (ps := [(0, .int .i64 y251), (1, .int .i64 y253), (2, .int .i64 s91.2)]) (cs := [.int .i64 y251, .int .i64 y253, .int .i64 s91.2]) array27 zero27 rfl rfl rfl) ?_
                                refine plan_commit hTb249 fun hh255 => ?_
                                have h := h a248 _ ⟨b249, hh255, hrb249, rfl⟩
                                refine plan_one (j := 18) (S2 := 524287) (by decide +kernel) rfl (by decide) rfl ?_
                                obtain ⟨q257b, q257o, q257c, q257e, hq257a, hq257b, hq257l, hq257v, h⟩ := h
                                refine do_store (vs := [.int .i64 y251, .int .i64 y253, .int .i64 s91.2]) size27 (pta rfl hq257a) rfl rfl rfl hq257v hq257b hq257l ?_
                                refine ⟨_, rfl, ?_⟩
                                refine plan_done (by decide +kernel) ?_
                                exact hj122 _ _ _ h ⟨e113_11, e113_12, e113_14, e113_15, e113_17, e113_18, rfl, e113_20, rfl⟩
                            · refine pstep_yes (S2 := 177983) rfl (by decide +kernel) (by decide) rfl ?_
                              refine do_newT zero27 rfl fun b262 a261 hHb262 hTb262 hrb262 => ?_
                              refine ⟨_, (.inr ⟨⟨_, _, rfl, rfl, q_load scalar3 rfl hr221⟩, _, rfl, rfl⟩), ?_⟩
                              refine plan_one (j := 6) (S2 := 178047) (by decide +kernel) rfl (by decide) rfl ?_
                              refine do_call2 body30 (usage_Table_Stamp_s _ _ _ _ h) rfl ?_
                              rintro _ H263 ⟨y264, rfl, h⟩
                              obtain ⟨hr265, h⟩ := h
                              refine ⟨_, (.inr ⟨⟨_, _, rfl, rfl, q_load scalar3 rfl hr265⟩, _, rfl, rfl⟩), ?_⟩
                              refine plan_pure (i := 7) (d := 149) (S2 := 178175) (v := .int .i64 (IntKind.wrap .i64 (y50 - y264))) rfl (by decide +kernel) rfl (q_sub rfl rfl) ?_
                              refine plan_one (j := 11) (S2 := 180223) (by decide +kernel) rfl (by decide) rfl ?_
                              refine do_call2 body8 (victim_Score_s _ _ _ _ _ h) rfl ?_
                              rintro _ H266 ⟨y267, rfl, h⟩
                              refine ⟨_, (.inl ⟨⟨[10, 11], by decide +kernel, rfl⟩, rfl⟩), ?_⟩
                              refine plan_one (j := 14) (S2 := 196607) (by decide +kernel) rfl (by decide) rfl ?_
                              refine do_call2 body28 (usage_Table_Live_s _ _ _ _ h) rfl ?_
                              rintro _ H268 ⟨y269, rfl, h⟩
                              refine ⟨_, rfl, ?_⟩
                              refine plan_pure (i := 16) (d := 158) (S2 := 262143) (v := .agg ([.int .i64 y267, .int .i64 y269, .int .i64 s91.2] : List Value).toArray) rfl (by decide +kernel) rfl (q_buildA (ps := [(0, .int .i64 y267), (1, .int .i64 y269), (2, .int .i64 s91.2)]) (cs := [.int .i64 y267, .int .i64 y269, .int .i64 s91.2]) array27 zero27 rfl rfl rfl) ?_
                              refine plan_commit hTb262 fun hh271 => ?_
                              have h := h a261 _ ⟨b262, hh271, hrb262, rfl⟩
                              refine plan_one (j := 18) (S2 := 524287) (by decide +kernel) rfl (by decide) rfl ?_
                              obtain ⟨q273b, q273o, q273c, q273e, hq273a, hq273b, hq273l, hq273v, h⟩ := h
                              refine do_store (vs := [.int .i64 y267, .int .i64 y269, .int .i64 s91.2]) size27 (pta rfl hq273a) rfl rfl rfl hq273v hq273b hq273l ?_
                              refine ⟨_, rfl, ?_⟩
                              refine plan_done (by decide +kernel) ?_
                              exact hj122 _ _ _ h ⟨e113_11, e113_12, e113_14, e113_15, e113_17, e113_18, rfl, e113_20, rfl⟩
                          · refine pstep_yes (S2 := 177979) rfl (by decide +kernel) (by decide) rfl ?_
                            refine do_newT zero27 rfl fun b278 a277 hHb278 hTb278 hrb278 => ?_
                            refine ⟨_, (.inr ⟨⟨_, _, rfl, rfl, q_load scalar3 rfl hx218⟩, _, rfl, rfl⟩), ?_⟩
                            refine plan_one (j := 2) (S2 := 177983) (by decide +kernel) rfl (by decide) rfl ?_
                            refine do_call2 body28 (usage_Table_Live_s _ _ _ _ h) rfl ?_
                            rintro _ H279 ⟨y280, rfl, h⟩
                            obtain ⟨hr281, h⟩ := h
                            refine ⟨_, (.inr ⟨⟨_, _, rfl, rfl, q_load scalar3 rfl hr281⟩, _, rfl, rfl⟩), ?_⟩
                            refine plan_one (j := 6) (S2 := 178047) (by decide +kernel) rfl (by decide) rfl ?_
                            refine do_call2 body30 (usage_Table_Stamp_s _ _ _ _ h) rfl ?_
                            rintro _ H282 ⟨y283, rfl, h⟩
                            obtain ⟨hr284, h⟩ := h
                            refine ⟨_, (.inr ⟨⟨_, _, rfl, rfl, q_load scalar3 rfl hr284⟩, _, rfl, rfl⟩), ?_⟩
                            refine plan_pure (i := 7) (d := 149) (S2 := 178175) (v := .int .i64 (IntKind.wrap .i64 (y50 - y283))) rfl (by decide +kernel) rfl (q_sub rfl rfl) ?_
                            refine plan_one (j := 11) (S2 := 180223) (by decide +kernel) rfl (by decide) rfl ?_
                            refine do_call2 body8 (victim_Score_s _ _ _ _ _ h) rfl ?_
                            rintro _ H285 ⟨y286, rfl, h⟩
                            refine ⟨_, (.inl ⟨⟨[10, 11], by decide +kernel, rfl⟩, rfl⟩), ?_⟩
                            refine plan_one (j := 14) (S2 := 196607) (by decide +kernel) rfl (by decide) rfl ?_
                            refine do_call2 body28 (usage_Table_Live_s _ _ _ _ h) rfl ?_
                            rintro _ H287 ⟨y288, rfl, h⟩
                            refine ⟨_, rfl, ?_⟩
                            refine plan_pure (i := 16) (d := 158) (S2 := 262143) (v := .agg ([.int .i64 y286, .int .i64 y288, .int .i64 s91.2] : List Value).toArray) rfl (by decide +kernel) rfl (q_buildA (ps := [(0, .int .i64 y286), (1, .int .i64 y288), (2, .int .i64 s91.2)]) (cs := [.int .i64 y286, .int .i64 y288, .int .i64 s91.2]) array27 zero27 rfl rfl rfl) ?_
                            refine plan_commit hTb278 fun hh290 => ?_
                            have h := h a277 _ ⟨b278, hh290, hrb278, rfl⟩
                            refine plan_one (j := 18) (S2 := 524287) (by decide +kernel) rfl (by decide) rfl ?_
                            obtain ⟨q292b, q292o, q292c, q292e, hq292a, hq292b, hq292l, hq292v, h⟩ := h
                            refine do_store (vs := [.int .i64 y286, .int .i64 y288, .int .i64 s91.2]) size27 (pta rfl hq292a) rfl rfl rfl hq292v hq292b hq292l ?_
                            refine ⟨_, rfl, ?_⟩
                            refine plan_done (by decide +kernel) ?_
                            exact hj122 _ _ _ h ⟨e113_11, e113_12, e113_14, e113_15, e113_17, e113_18, rfl, e113_20, rfl⟩
                    · intro j111 hj111 h
                      rcases bor s105 with hc109 | hc109
                      · have h := h.1 hc109
                        refine no_dst (want_no rfl rfl rfl hc109) rfl (by decide) ?_
                        refine no_dst (want_no rfl rfl rfl hc109) rfl (by decide) ?_
                        refine no_dst (want_no rfl rfl rfl hc109) rfl (by decide) ?_
                        refine no_dst (want_no rfl rfl rfl hc109) rfl (by decide) ?_
                        refine no_dst (want_no rfl rfl rfl hc109) rfl (by decide) ?_
                        refine no_dst (want_no rfl rfl rfl hc109) rfl (by decide) ?_
                        refine GoOps.q (v := .bool true) rfl rfl (by decide) (q_pickT (btT rfl hc109) rfl) ?_
                        exact hj111 true _ _ h (by exact ⟨e108_11, e108_12, e108_14, e108_15, e108_17, e108_18, e108_19, e108_20, rfl⟩)
                      · have h := h.2 hc109
                        refine GoOps.q (v := .pointer y47) (want_yes rfl rfl rfl hc109) rfl (by decide) (q_move e108_14) ?_
                        refine GoOps.q (v := .int .i64 s91.2) (want_yes rfl rfl rfl hc109) rfl (by decide) (q_move e108_20) ?_
                        refine call_dst (want_yes rfl rfl rfl hc109) (by decide) body28 (usage_Table_Live_s _ _ _ _ h) rfl ?_
                        rintro _ H293 ⟨y294, rfl, h⟩
                        refine GoOps.q (v := .pointer y16) (want_yes rfl rfl rfl hc109) rfl (by decide) (q_move e108_12) ?_
                        refine call_dst (want_yes rfl rfl rfl hc109) (by decide) body29 (geom_Geom_Half_s _ _ _ h) rfl ?_
                        rintro _ H295 ⟨y296, rfl, h⟩
                        refine GoOps.q (v := .bool (decide (y296 < y294))) (want_yes rfl rfl rfl hc109) rfl (by decide) (q_gtr rfl rfl) ?_
                        refine GoOps.q (v := .bool (decide (y296 < y294))) rfl rfl (by decide) (q_pickF (btF rfl hc109) rfl) ?_
                        exact hj111 (decide (y296 < y294)) _ _ h (by exact ⟨e108_11, e108_12, e108_14, e108_15, e108_17, e108_18, e108_19, e108_20, rfl⟩)
                  · intro j106 hj106 h
                    rcases bor (y103 != 2) with hc104 | hc104
                    · have h := h.1 hc104
                      refine no_dst (want_no rfl rfl rfl hc104) rfl (by decide) ?_
                      refine no_dst (want_no rfl rfl rfl hc104) rfl (by decide) ?_
                      refine no_dst (want_no rfl rfl rfl hc104) rfl (by decide) ?_
                      refine no_dst (want_no rfl rfl rfl hc104) rfl (by decide) ?_
                      refine GoOps.q (v := .bool true) rfl rfl (by decide) (q_pickT (btT rfl hc104) rfl) ?_
                      exact hj106 true _ _ h (by exact ⟨e93_11, e93_12, e93_14, e93_15, e93_17, e93_18, e93_19, e93_20, rfl⟩)
                    · have h := h.2 hc104
                      refine GoOps.q (v := .pointer y47) (want_yes rfl rfl rfl hc104) rfl (by decide) (q_move e93_14) ?_
                      refine GoOps.q (v := .int .i64 s91.2) (want_yes rfl rfl rfl hc104) rfl (by decide) (q_move e93_20) ?_
                      refine call_dst (want_yes rfl rfl rfl hc104) (by decide) body28 (usage_Table_Live_s _ _ _ _ h) rfl ?_
                      rintro _ H297 ⟨y298, rfl, h⟩
                      refine GoOps.q (v := .bool (decide (y298 < 1))) (want_yes rfl rfl rfl hc104) rfl (by decide) (q_lss rfl rfl) ?_
                      refine GoOps.q (v := .bool (decide (y298 < 1))) rfl rfl (by decide) (q_pickF (btF rfl hc104) rfl) ?_
                      exact hj106 (decide (y298 < 1)) _ _ h (by exact ⟨e93_11, e93_12, e93_14, e93_15, e93_17, e93_18, e93_19, e93_20, rfl⟩)
              · have h := h.2 hc97
                refine Go.condF (btF rfl hc97) ?_
                refine Go.exit rfl ?_
                refine Go.seq ?_
                refine Go.region rfl ?_
                refine GoOps.q (v := .bool y90) rfl rfl (by decide) (q_move e93_18) ?_
                refine GoOps.q (v := .bool s91.1) rfl rfl (by decide) (q_move e93_19) ?_
                refine GoOps.q (v := .bool (y90 == s91.1)) rfl rfl (by decide) (q_eqlB Try.underlying4 rfl rfl) ?_
                refine GoOps.q (v := .bool (y90 == s91.1)) rfl rfl (by decide) (q_move rfl) ?_
                refine join_ops 2 (fun ρ (s300 : Bool) => ρ 187 = .bool s300) h ?_ ?_ <;> clear h
                · intro s300 H302 ρ h hE
                  have e303_187 := hE
                  refine GoOps.q (v := .bool s300) rfl rfl (by decide) (q_assign e303_187) ?_
                  refine GoOps.nil ?_
                  exact Go.ret ⟨.inl rfl, _, _, DOk.nil, (resOk1 Try.results7 rfl), ⟨_, rfl, h⟩⟩
                · intro j301 hj301 h
                  rcases bor (y90 == s91.1) with hc299 | hc299
                  · have h := h.1 hc299
                    refine call_dst (want_yes rfl rfl rfl hc299) (by decide) body10 (keelsonlaw19_awake_s _ _ h) rfl ?_
                    rintro _ H304 ⟨y305, rfl, h⟩
                    refine GoOps.q (v := .bool y305) rfl rfl (by decide) (q_pickT (btT rfl hc299) rfl) ?_
                    exact hj301 y305 _ _ h (by exact rfl)
                  · have h := h.2 hc299
                    refine no_dst (want_no rfl rfl rfl hc299) rfl (by decide) ?_
                    refine GoOps.q (v := .bool false) rfl rfl (by decide) (q_pickF (btF rfl hc299) rfl) ?_
                    exact hj301 false _ _ h (by exact rfl)
      · intro j30 hj30 h
        rcases bor s24 with hc28 | hc28
        · have h := h.1 hc28
          refine no_dst (want_no rfl rfl rfl hc28) rfl (by decide) ?_
          refine no_dst (want_no rfl rfl rfl hc28) rfl (by decide) ?_
          refine no_dst (want_no rfl rfl rfl hc28) rfl (by decide) ?_
          refine no_dst (want_no rfl rfl rfl hc28) rfl (by decide) ?_
          refine no_dst (want_no rfl rfl rfl hc28) rfl (by decide) ?_
          refine GoOps.q (v := .bool true) rfl rfl (by decide) (q_pickT (btT rfl hc28) rfl) ?_
          exact hj30 true _ _ h (by exact ⟨e27_1, e27_2, e27_3, e27_4, e27_11, e27_12, e27_13, rfl⟩)
        · have h := h.2 hc28
          refine GoOps.q (v := Sl.v p2) (want_yes rfl rfl rfl hc28) rfl (by decide) (q_move e27_2) ?_
          refine GoOps.q (v := .int .i64 (p2.len : Int)) (want_yes rfl rfl rfl hc28) rfl (by decide) (q_len Try.underlying30 rfl (ls1 rfl)) ?_
          refine GoOps.q (v := .pointer (some (a8.add 1))) (want_yes rfl rfl rfl hc28) rfl (by decide) (q_fieldAddr foff32_1 e27_11) ?_
          obtain ⟨x306, hx307, h⟩ := h
          refine GoOps.q (v := .int .i64 x306) (want_yes rfl rfl rfl hc28) rfl (by decide) (q_load scalar3 rfl hx307) ?_
          refine GoOps.q (v := .bool (decide ((p2.len : Int) < x306))) (want_yes rfl rfl rfl hc28) rfl (by decide) (q_lss rfl rfl) ?_
          refine GoOps.q (v := .bool (decide ((p2.len : Int) < x306))) rfl rfl (by decide) (q_pickF (btF rfl hc28) rfl) ?_
          exact hj30 (decide ((p2.len : Int) < x306)) _ _ h (by exact ⟨e27_1, e27_2, e27_3, e27_4, e27_11, e27_12, e27_13, rfl⟩)
    · intro j25 hj25 h
      rcases bor s19 with hc23 | hc23
      · have h := h.1 hc23
        refine no_dst (want_no rfl rfl rfl hc23) rfl (by decide) ?_
        refine no_dst (want_no rfl rfl rfl hc23) rfl (by decide) ?_
        refine no_dst (want_no rfl rfl rfl hc23) rfl (by decide) ?_
        refine no_dst (want_no rfl rfl rfl hc23) rfl (by decide) ?_
        refine no_dst (want_no rfl rfl rfl hc23) rfl (by decide) ?_
        refine GoOps.q (v := .bool true) rfl rfl (by decide) (q_pickT (btT rfl hc23) rfl) ?_
        exact hj25 true _ _ h (by exact ⟨e22_1, e22_2, e22_3, e22_4, e22_11, e22_12, e22_13, rfl⟩)
      · have h := h.2 hc23
        refine GoOps.q (v := Sl.v p1) (want_yes rfl rfl rfl hc23) rfl (by decide) (q_move e22_1) ?_
        refine GoOps.q (v := .int .i64 (p1.len : Int)) (want_yes rfl rfl rfl hc23) rfl (by decide) (q_len Try.underlying30 rfl (ls1 rfl)) ?_
        refine GoOps.q (v := .pointer (some (a8.add 1))) (want_yes rfl rfl rfl hc23) rfl (by decide) (q_fieldAddr foff32_1 e22_11) ?_
        obtain ⟨x308, hx309, h⟩ := h
        refine GoOps.q (v := .int .i64 x308) (want_yes rfl rfl rfl hc23) rfl (by decide) (q_load scalar3 rfl hx309) ?_
        refine GoOps.q (v := .bool (decide ((p1.len : Int) < x308))) (want_yes rfl rfl rfl hc23) rfl (by decide) (q_lss rfl rfl) ?_
        refine GoOps.q (v := .bool (decide ((p1.len : Int) < x308))) rfl rfl (by decide) (q_pickF (btF rfl hc23) rfl) ?_
        exact hj25 (decide ((p1.len : Int) < x308)) _ _ h (by exact ⟨e22_1, e22_2, e22_3, e22_4, e22_11, e22_12, e22_13, rfl⟩)
  · intro j20 hj20 h
    rcases bor (y17 != 0) with hc18 | hc18
    · have h := h.1 hc18
      refine no_dst (want_no rfl rfl rfl hc18) rfl (by decide) ?_
      refine no_dst (want_no rfl rfl rfl hc18) rfl (by decide) ?_
      refine GoOps.q (v := .bool true) rfl rfl (by decide) (q_pickT (btT rfl hc18) rfl) ?_
      exact hj20 true _ _ h (by exact ⟨rfl, rfl, rfl, rfl, rfl, rfl, rfl, rfl⟩)
    · have h := h.2 hc18
      refine GoOps.q (v := .pointer y16) (want_yes rfl rfl rfl hc18) rfl (by decide) (q_move rfl) ?_
      refine GoOps.q (v := .bool (Option.isNone y16)) (want_yes rfl rfl rfl hc18) rfl (by decide) (q_eqlPn Try.underlying34 rfl rfl) ?_
      refine GoOps.q (v := .bool (Option.isNone y16)) rfl rfl (by decide) (q_pickF (btF rfl hc18) rfl) ?_
      exact hj20 (Option.isNone y16) _ _ h (by exact ⟨rfl, rfl, rfl, rfl, rfl, rfl, rfl, rfl⟩)

/-- (*keelson.usage.Table).Take$1 -/
def usage_Table_Take_c1 (p0 : (Int × Int)) (H : PH) (Q : Bool → PH → Prop) : Prop :=
  mNew H (row [.int .i64 p0.1, .int .i64 p0.2] 40) fun a1 H2 =>
  mLd (.int .i64) H2 (a1.add 0) fun x4 =>
  Q (x4 == 0) H2

set_option maxRecDepth 20000 in
set_option maxHeartbeats 1000000 in
theorem usage_Table_Take_c1_s (p0 : (Int × Int)) (H : PH) (Q : Bool → PH → Prop) (h : usage_Table_Take_c1 p0 H Q) :
    CallsH Try.prog 50 #[.agg ([.int .i64 p0.1, .int .i64 p0.2] : List Value).toArray] H (fun v H' => ∃ (r0 : Bool), v = .bool r0 ∧ Q r0 H') := by
  unfold usage_Table_Take_c1 at h
  refine callsH_of_go Try.func50 rfl Try.ntmps50 (Nat.le_of_ble_eq_true rfl) ?_
  refine Go.seq ?_
  refine Go.region rfl ?_
  refine op_dst rfl rfl (by decide) (do_newBox (cs := [.int .i64 p0.1, .int .i64 p0.2]) rfl rfl fun a1 H2 hb3 => ?_) 
  have h := h a1 H2 hb3
  refine GoOps.q (v := .bool false) rfl rfl (by decide) (q_assign rfl) ?_
  refine GoOps.nil ?_
  refine Go.seq ?_
  refine Go.region rfl ?_
  refine GoOps.q (v := .pointer (some (a1.add 0))) rfl rfl (by decide) (q_fieldAddr foff40_0 rfl) ?_
  obtain ⟨x4, hx5, h⟩ := h
  refine GoOps.q (v := .int .i64 x4) rfl rfl (by decide) (q_load scalar3 rfl hx5) ?_
  refine GoOps.q (v := .bool (x4 == 0)) rfl rfl (by decide) (q_eql rfl rfl) ?_
  refine GoOps.q (v := .bool (x4 == 0)) rfl rfl (by decide) (q_assign rfl) ?_
  refine GoOps.nil ?_
  exact Go.ret ⟨.inl rfl, _, _, DOk.nil, (resOk1 Try.results50 rfl), ⟨_, rfl, h⟩⟩


end Go.Proofs.Ytinjkdoikljakaa

import Derived.Test.YtfjpapddfdhhlaaFnp2
set_option linter.unusedVariables false
set_option linter.unusedSimpArgs false
namespace Go.Proofs.Ytfjpapddfdhhlaa
open Go Go.Kx Go.Proofs
/-- keelson.keelsonlaw24.IdealPlays -/
def keelsonlaw24_IdealPlays (p0 : Int) (p1 : Sl) (p2 : Int) (H : PH) (Q : Bool → PH → Prop) : Prop :=
  keelsonlaw24_few p1 H fun y2 H1 =>
  mIf (!y2)
  (keelsonlaw24_awake H1 fun y5 H4 =>
  Q y5 H4)
  (ideal_New p0 H1 fun y7 H6 =>
  keelsonref22_NewIdeal p0 H6 fun y9 H8 =>
  mIf (Option.isNone y9)
  (mJoin (fun (s12 : Bool) (H14 : PH) =>
  Q s12 H14)
  fun j13 =>
  mIf (Option.isNone y7)
  (keelsonlaw24_awake H8 fun y17 H16 =>
  j13 y17 H16)
  (j13 false H8))
  (mIf (Option.isNone y7)
  (Q false H8)
  (mLoop (fun (s19 : Int) (H22 : PH) (again20 : Int → PH → Prop) =>
  mIf (decide (s19 < (p1.len : Int)))
  (mGe (Int.tmod s19 60) <|
  mJoin (fun (s25 : Unit) (H27 : PH) =>
  mIdx p1 5 s19 fun a29 =>
  mLdR (fun (x : (Int × Int × Int × Int × Sl)) => [.int .i64 x.1, .int .i64 x.2.1, .int .i64 x.2.2.1, .int .i64 x.2.2.2.1, Sl.v x.2.2.2.2]) H27 a29 5 fun x31 =>
  mIdx p1 5 s19 fun a33 =>
  mLdR (fun (x : (Int × Int × Int × Int × Sl)) => [.int .i64 x.1, .int .i64 x.2.1, .int .i64 x.2.2.1, .int .i64 x.2.2.2.1, Sl.v x.2.2.2.2]) H27 a33 5 fun x35 =>
  ideal_Ideal_Do y7 (x31.1, x31.2.1, x31.2.2.1, x31.2.2.2.1, x31.2.2.2.2) H27 fun y38 H37 =>
  mSameA H37 a33 5 ([.int .i64 x35.1, .int .i64 x35.2.1, .int .i64 x35.2.2.1, .int .i64 x35.2.2.2.1, Sl.v x35.2.2.2.2]) <|
  keelsonref22_Ideal_Do y9 (x35.1, x35.2.1, x35.2.2.1, x35.2.2.2.1, x35.2.2.2.2) H37 fun y41 H40 =>
  mJoin (fun (s43 : Bool) (H45 : PH) =>
  mJoin (fun (s48 : Bool) (H50 : PH) =>
  mJoin (fun (s53 : Bool) (H55 : PH) =>
  mIf s53
  (Q false H55)
  (mLoop (fun (s58 : Int) (H61 : PH) (again59 : Int → PH → Prop) =>
  mIf (decide (s58 ≤ p0))
  (ideal_Ideal_Read y7 s58 H61 fun y64 H63 =>
  keelsonref22_Ideal_Read y9 s58 H63 fun y66 H65 =>
  keelsonalike_Bytes y64 y66 H65 fun y68 H67 =>
  mJoin (fun (s70 : Bool) (H72 : PH) =>
  mIf s70
  (Q false H72)
  (again59 (IntKind.wrap .i64 (s58 + 1)) H72))
  fun j71 =>
  mIf (!y68)
  (j71 true H67)
  (ideal_Ideal_Look y7 s58 H67 fun y76 H75 =>
  keelsonref22_Ideal_Look y9 s58 H75 fun y78 H77 =>
  keelsonalike_Bytes y76 y78 H77 fun y80 H79 =>
  j71 (!y80) H79))
  (again20 (IntKind.wrap .i64 (s19 + 1)) H61))
  (-1) H55))
  fun j54 =>
  mIf s48
  (j54 true H50)
  (mNil y9 fun a81 =>
  mLd (.int .i64) H50 (a81.add 4) fun x83 =>
  ideal_Ideal_Done y7 H50 fun y86 H85 =>
  mSame H85 (a81.add 4) (.int .i64 x83) <|
  j54 (y86 != x83) H85))
  fun j49 =>
  mIf s43
  (j49 true H45)
  (mNil y9 fun a88 =>
  mLd (.int .i64) H45 (a88.add 3) fun x90 =>
  ideal_Ideal_Seq y7 H45 fun y93 H92 =>
  mSame H92 (a88.add 3) (.int .i64 x90) <|
  j49 (y93 != x90) H92))
  fun j44 =>
  mIf (y38 != y41)
  (j44 true H40)
  (mNil y9 fun a95 =>
  mLd (.int .i64) H40 (a95.add 2) fun x97 =>
  ideal_Ideal_Epoch y7 H40 fun y100 H99 =>
  mSame H99 (a95.add 2) (.int .i64 x97) <|
  j44 (y100 != x97) H99))
  fun j26 =>
  mIf ((iand .i64 (ishr .i64 p2 (Int.tmod s19 60)) 7) == 7)
  (ideal_Ideal_Forget y7 H22 fun H103 =>
  keelsonref22_Ideal_Forget y9 H103 fun H104 =>
  j26 () H104)
  (j26 () H22))
  (keelsonlaw24_all y7 H22 fun y106 y107 H105 =>
  mJoin (fun (s109 : Bool) (H111 : PH) =>
  mJoin (fun (s114 : Bool) (H116 : PH) =>
  Q s114 H116)
  fun j115 =>
  mIf s109
  (keelsonlaw24_awake H111 fun y119 H118 =>
  j115 y119 H118)
  (j115 false H111))
  fun j110 =>
  mIf y107
  (mNil y9 fun a120 =>
  mLd Sl.v H105 (a120.add 0) fun x122 =>
  keelsonalike_Blocks y106 x122 H105 fun y125 H124 =>
  j110 y125 H124)
  (j110 false H105)))
  0 H8)))

set_option maxRecDepth 20000 in
set_option maxHeartbeats 1000000 in
theorem keelsonlaw24_IdealPlays_s (p0 : Int) (p1 : Sl) (p2 : Int) (H : PH) (Q : Bool → PH → Prop) (h : keelsonlaw24_IdealPlays p0 p1 p2 H Q) :
    CallsH Try.prog 4 #[.int .i64 p0, Sl.v p1, .int .i64 p2] H (fun v H' => ∃ (r0 : Bool), v = .bool r0 ∧ Q r0 H') := by
  unfold keelsonlaw24_IdealPlays at h
  refine callsH_of_go Try.func4 rfl Try.ntmps4 (Nat.le_of_ble_eq_true rfl) ?_
  refine Go.seq ?_
  refine Go.region rfl ?_
  refine GoOps.q (v := .bool false) rfl rfl (by decide) (q_assign rfl) ?_
  refine GoOps.nil ?_
  refine Go.seq ?_
  refine Go.seq ?_
  refine Go.region rfl ?_
  refine GoOps.q (v := Sl.v p1) rfl rfl (by decide) (q_move rfl) ?_
  refine call_dst rfl (by decide) body17 (keelsonlaw24_few_s _ _ _ h) rfl ?_
  rintro _ H1 ⟨y2, rfl, h⟩
  refine GoOps.q (v := .bool (!y2)) rfl rfl (by decide) (q_not rfl) ?_
  refine GoOps.nil ?_
  rcases bor (!y2) with hc3 | hc3
  · have h := h.1 hc3
    refine Go.condT (btT rfl hc3) ?_
    refine Go.seq ?_
    refine Go.region rfl ?_
    refine call_dst rfl (by decide) body6 (keelsonlaw24_awake_s _ _ h) rfl ?_
    rintro _ H4 ⟨y5, rfl, h⟩
    refine GoOps.q (v := .bool y5) rfl rfl (by decide) (q_assign rfl) ?_
    refine GoOps.nil ?_
    exact Go.ret ⟨.inl rfl, _, _, DOk.nil, (resOk1 Try.results4 rfl), ⟨_, rfl, h⟩⟩
  · have h := h.2 hc3
    refine Go.condF (btF rfl hc3) ?_
    refine Go.skip ?_
    refine Go.seq ?_
    refine Go.region rfl ?_
    refine GoOps.q (v := .int .i64 p0) rfl rfl (by decide) (q_move rfl) ?_
    refine call_dst rfl (by decide) body7 (ideal_New_s _ _ _ h) rfl ?_
    rintro _ H6 ⟨y7, rfl, h⟩
    refine GoOps.q (v := .pointer y7) rfl rfl (by decide) (q_assign rfl) ?_
    refine GoOps.nil ?_
    refine Go.seq ?_
    refine Go.region rfl ?_
    refine GoOps.q (v := .int .i64 p0) rfl rfl (by decide) (q_move rfl) ?_
    refine call_dst rfl (by decide) body18 (keelsonref22_NewIdeal_s _ _ _ h) rfl ?_
    rintro _ H8 ⟨y9, rfl, h⟩
    refine GoOps.q (v := .pointer y9) rfl rfl (by decide) (q_assign rfl) ?_
    refine GoOps.nil ?_
    refine Go.seq ?_
    refine Go.seq ?_
    refine Go.region rfl ?_
    refine GoOps.q (v := .pointer y9) rfl rfl (by decide) (q_move rfl) ?_
    refine GoOps.q (v := .bool (Option.isNone y9)) rfl rfl (by decide) (q_eqlPn Try.underlying38 rfl rfl) ?_
    refine GoOps.nil ?_
    rcases bor (Option.isNone y9) with hc10 | hc10
    · have h := h.1 hc10
      refine Go.condT (btT rfl hc10) ?_
      refine Go.seq ?_
      refine Go.region rfl ?_
      refine GoOps.q (v := .pointer y7) rfl rfl (by decide) (q_move rfl) ?_
      refine GoOps.q (v := .bool (Option.isNone y7)) rfl rfl (by decide) (q_eqlPn Try.underlying24 rfl rfl) ?_
      refine GoOps.q (v := .bool (Option.isNone y7)) rfl rfl (by decide) (q_move rfl) ?_
      refine join_ops 2 (fun ρ (s12 : Bool) => ρ 27 = .bool s12) h ?_ ?_ <;> clear h
      · intro s12 H14 ρ h hE
        have e15_27 := hE
        refine GoOps.q (v := .bool s12) rfl rfl (by decide) (q_assign e15_27) ?_
        refine GoOps.nil ?_
        exact Go.ret ⟨.inl rfl, _, _, DOk.nil, (resOk1 Try.results4 rfl), ⟨_, rfl, h⟩⟩
      · intro j13 hj13 h
        rcases bor (Option.isNone y7) with hc11 | hc11
        · have h := h.1 hc11
          refine call_dst (want_yes rfl rfl rfl hc11) (by decide) body6 (keelsonlaw24_awake_s _ _ h) rfl ?_
          rintro _ H16 ⟨y17, rfl, h⟩
          refine GoOps.q (v := .bool y17) rfl rfl (by decide) (q_pickT (btT rfl hc11) rfl) ?_
          exact hj13 y17 _ _ h (by exact rfl)
        · have h := h.2 hc11
          refine no_dst (want_no rfl rfl rfl hc11) rfl (by decide) ?_
          refine GoOps.q (v := .bool false) rfl rfl (by decide) (q_pickF (btF rfl hc11) rfl) ?_
          exact hj13 false _ _ h (by exact rfl)
    · have h := h.2 hc10
      refine Go.condF (btF rfl hc10) ?_
      refine Go.skip ?_
      refine Go.seq ?_
      refine Go.seq ?_
      refine Go.region rfl ?_
      refine GoOps.q (v := .pointer y7) rfl rfl (by decide) (q_move rfl) ?_
      refine GoOps.q (v := .bool (Option.isNone y7)) rfl rfl (by decide) (q_eqlPn Try.underlying24 rfl rfl) ?_
      refine GoOps.nil ?_
      rcases bor (Option.isNone y7) with hc18 | hc18
      · have h := h.1 hc18
        refine Go.condT (btT rfl hc18) ?_
        refine Go.seq ?_
        refine Go.region rfl ?_
        refine GoOps.q (v := .bool false) rfl rfl (by decide) (q_assign rfl) ?_
        refine GoOps.nil ?_
        exact Go.ret ⟨.inl rfl, _, _, DOk.nil, (resOk1 Try.results4 rfl), ⟨_, rfl, h⟩⟩
      · have h := h.2 hc18
        refine Go.condF (btF rfl hc18) ?_
        refine Go.skip ?_
        refine Go.seq ?_
        refine Go.seq ?_
        refine Go.region rfl ?_
        refine GoOps.q (v := .int .i64 0) rfl rfl (by decide) (q_assign rfl) ?_
        refine GoOps.nil ?_
        refine Go.block ?_
        refine loop_go (fun ρ (s19 : Int) => ρ 0 = .int .i64 p0 ∧ ρ 1 = Sl.v p1 ∧ ρ 2 = .int .i64 p2 ∧ ρ 7 = .pointer y7 ∧ ρ 8 = .pointer y9 ∧ ρ 9 = .int .i64 s19) h ⟨rfl, rfl, rfl, rfl, rfl, rfl⟩ ?_
        clear h
        intro ρ s19 H22 again20 hE h hagain20
        obtain ⟨e21_0, e21_1, e21_2, e21_7, e21_8, e21_9⟩ := hE
        refine Go.seq ?_
        refine Go.seq ?_
        refine Go.region rfl ?_
        refine GoOps.q (v := .int .i64 s19) rfl rfl (by decide) (q_move e21_9) ?_
        refine GoOps.q (v := Sl.v p1) rfl rfl (by decide) (q_move e21_1) ?_
        refine GoOps.q (v := .int .i64 (p1.len : Int)) rfl rfl (by decide) (q_len Try.underlying36 rfl (ls1 rfl)) ?_
        refine GoOps.q (v := .bool (decide (s19 < (p1.len : Int)))) rfl rfl (by decide) (q_lss rfl rfl) ?_
        refine GoOps.nil ?_
        rcases bor (decide (s19 < (p1.len : Int))) with hc23 | hc23
        · have h := h.1 hc23
          refine Go.condT (btT rfl hc23) ?_
          refine Go.skip ?_
          refine Go.seq ?_
          refine Go.block ?_
          refine Go.seq ?_
          refine Go.seq ?_
          refine Go.region rfl ?_
          refine GoOps.q (v := .int .i64 p2) rfl rfl (by decide) (q_move e21_2) ?_
          refine GoOps.q (v := .int .i64 s19) rfl rfl (by decide) (q_move e21_9) ?_
          refine GoOps.q (v := .int .i64 (Int.tmod s19 60)) rfl rfl (by decide) (q_rem (by decide) rfl rfl) ?_
          obtain ⟨hn24, h⟩ := h
          refine GoOps.q (v := .int .i64 (ishr .i64 p2 (Int.tmod s19 60))) rfl rfl (by decide) (q_shr hn24 rfl rfl) ?_
          refine GoOps.q (v := .int .i64 (iand .i64 (ishr .i64 p2 (Int.tmod s19 60)) 7)) rfl rfl (by decide) (q_and rfl rfl) ?_
          refine GoOps.q (v := .bool ((iand .i64 (ishr .i64 p2 (Int.tmod s19 60)) 7) == 7)) rfl rfl (by decide) (q_eql rfl rfl) ?_
          refine GoOps.nil ?_
          refine join_go 1 (fun ρ (s25 : Unit) => ρ 0 = .int .i64 p0 ∧ ρ 1 = Sl.v p1 ∧ ρ 2 = .int .i64 p2 ∧ ρ 7 = .pointer y7 ∧ ρ 8 = .pointer y9 ∧ ρ 9 = .int .i64 s19) h ?_ ?_ <;> clear h
          · intro s25 H27 ρ h hE
            obtain ⟨e28_0, e28_1, e28_2, e28_7, e28_8, e28_9⟩ := hE
            refine Go.seq ?_
            refine Go.seq ?_
            refine Go.draw mixed ?_
            refine plan_pure (i := 0) (d := 46) (S2 := 1) (v := .pointer y7) rfl (by decide +kernel) rfl (q_move e28_7) ?_
            refine plan_pure (i := 1) (d := 47) (S2 := 3) (v := Sl.v p1) rfl (by decide +kernel) rfl (q_move e28_1) ?_
            refine plan_pure (i := 2) (d := 48) (S2 := 7) (v := .int .i64 s19) rfl (by decide +kernel) rfl (q_move e28_9) ?_
            obtain ⟨a29, ha30, h⟩ := h
            refine plan_pure (i := 3) (d := 49) (S2 := 15) (v := .pointer (some a29)) rfl (by decide +kernel) rfl (q_idx slice36 ha30 rfl rfl) ?_
            obtain ⟨x31, hx32, h⟩ := h
            refine plan_load (i := 4) (d := 50) (S2 := 31) (v := .agg ([.int .i64 x31.1, .int .i64 x31.2.1, .int .i64 x31.2.2.1, .int .i64 x31.2.2.2.1, Sl.v x31.2.2.2.2] : List Value).toArray) rfl (by decide +kernel) rfl (q_loadA aggr29 rfl hx32) ?_
            refine plan_pure (i := 6) (d := 52) (S2 := 95) (v := .pointer y9) rfl (by decide +kernel) rfl (q_move e28_8) ?_
            refine plan_pure (i := 7) (d := 53) (S2 := 223) (v := Sl.v p1) rfl (by decide +kernel) rfl (q_move e28_1) ?_
            refine plan_pure (i := 8) (d := 54) (S2 := 479) (v := .int .i64 s19) rfl (by decide +kernel) rfl (q_move e28_9) ?_
            obtain ⟨a33, ha34, h⟩ := h
            refine plan_pure (i := 9) (d := 55) (S2 := 991) (v := .pointer (some a33)) rfl (by decide +kernel) rfl (q_idx slice36 ha34 rfl rfl) ?_
            obtain ⟨x35, hx36, h⟩ := h
            refine plan_load (i := 10) (d := 56) (S2 := 2015) (v := .agg ([.int .i64 x35.1, .int .i64 x35.2.1, .int .i64 x35.2.2.1, .int .i64 x35.2.2.2.1, Sl.v x35.2.2.2.2] : List Value).toArray) rfl (by decide +kernel) rfl (q_loadA aggr29 rfl hx36) ?_
            refine plan_one (j := 5) (S2 := 2047) (by decide +kernel) rfl (by decide) rfl ?_
            refine do_call2 body10 (ideal_Ideal_Do_s _ _ _ _ h) rfl ?_
            rintro _ H37 ⟨y38, rfl, h⟩
            obtain ⟨hr39, h⟩ := h
            refine ⟨_, (.inr ⟨⟨_, _, rfl, rfl, q_loadA aggr29 rfl hr39⟩, _, rfl, .inl ⟨⟨[5], by decide +kernel, rfl⟩, rfl⟩⟩), ?_⟩
            refine plan_one (j := 11) (S2 := 4095) (by decide +kernel) rfl (by decide) rfl ?_
            refine do_call2 body20 (keelsonref22_Ideal_Do_s _ _ _ _ h) rfl ?_
            rintro _ H40 ⟨y41, rfl, h⟩
            refine ⟨_, (.inl ⟨⟨[11], by decide +kernel, rfl⟩, rfl⟩), ?_⟩
            refine plan_pure (i := 12) (d := 58) (S2 := 8191) (v := .bool (y38 != y41)) rfl (by decide +kernel) rfl (q_neqB Try.underlying4 rfl rfl) ?_
            refine plan_pure (i := 13) (d := 59) (S2 := 16383) (v := .bool (y38 != y41)) rfl (by decide +kernel) rfl (q_move rfl) ?_
            refine join_plan 4194303 [19] (fun ρ (s43 : Bool) => ρ 0 = .int .i64 p0 ∧ ρ 1 = Sl.v p1 ∧ ρ 2 = .int .i64 p2 ∧ ρ 7 = .pointer y7 ∧ ρ 8 = .pointer y9 ∧ ρ 9 = .int .i64 s19 ∧ ρ 67 = .bool s43) h ?_ ?_ <;> clear h
            · intro s43 H45 ρ h hE
              obtain ⟨e46_0, e46_1, e46_2, e46_7, e46_8, e46_9, e46_67⟩ := hE
              refine plan_pure (i := 22) (d := 68) (S2 := 8388607) (v := .bool s43) rfl (by decide +kernel) rfl (q_move e46_67) ?_
              refine join_plan 2147483647 [28, 19] (fun ρ (s48 : Bool) => ρ 0 = .int .i64 p0 ∧ ρ 1 = Sl.v p1 ∧ ρ 2 = .int .i64 p2 ∧ ρ 7 = .pointer y7 ∧ ρ 8 = .pointer y9 ∧ ρ 9 = .int .i64 s19 ∧ ρ 76 = .bool s48) h ?_ ?_ <;> clear h
              · intro s48 H50 ρ h hE
                obtain ⟨e51_0, e51_1, e51_2, e51_7, e51_8, e51_9, e51_76⟩ := hE
                refine plan_pure (i := 31) (d := 77) (S2 := 4294967295) (v := .bool s48) rfl (by decide +kernel) rfl (q_move e51_76) ?_
                refine join_plan 1099511627775 [37, 28, 19] (fun ρ (s53 : Bool) => ρ 0 = .int .i64 p0 ∧ ρ 1 = Sl.v p1 ∧ ρ 2 = .int .i64 p2 ∧ ρ 7 = .pointer y7 ∧ ρ 8 = .pointer y9 ∧ ρ 9 = .int .i64 s19 ∧ ρ 85 = .bool s53) h ?_ ?_ <;> clear h
                · intro s53 H55 ρ h hE
                  obtain ⟨e56_0, e56_1, e56_2, e56_7, e56_8, e56_9, e56_85⟩ := hE
                  refine plan_done (by decide +kernel) ?_
                  rcases bor s53 with hc57 | hc57
                  · have h := h.1 hc57
                    refine Go.condT (btT e56_85 hc57) ?_
                    refine Go.seq ?_
                    refine Go.region rfl ?_
                    refine GoOps.q (v := .bool false) rfl rfl (by decide) (q_assign rfl) ?_
                    refine GoOps.nil ?_
                    exact Go.ret ⟨.inl rfl, _, _, DOk.nil, (resOk1 Try.results4 rfl), ⟨_, rfl, h⟩⟩
                  · have h := h.2 hc57
                    refine Go.condF (btF e56_85 hc57) ?_
                    refine Go.skip ?_
                    refine Go.seq ?_
                    refine Go.region rfl ?_
                    refine GoOps.q (v := .int .i64 (-1)) rfl rfl (by decide) (q_assign rfl) ?_
                    refine GoOps.nil ?_
                    refine Go.block ?_
                    refine loop_go (fun ρ (s58 : Int) => ρ 0 = .int .i64 p0 ∧ ρ 1 = Sl.v p1 ∧ ρ 2 = .int .i64 p2 ∧ ρ 7 = .pointer y7 ∧ ρ 8 = .pointer y9 ∧ ρ 9 = .int .i64 s19 ∧ ρ 10 = .int .i64 s58) h ⟨e56_0, e56_1, e56_2, e56_7, e56_8, e56_9, rfl⟩ ?_
                    clear h
                    intro ρ s58 H61 again59 hE h hagain59
                    obtain ⟨e60_0, e60_1, e60_2, e60_7, e60_8, e60_9, e60_10⟩ := hE
                    refine Go.seq ?_
                    refine Go.seq ?_
                    refine Go.region rfl ?_
                    refine GoOps.q (v := .int .i64 s58) rfl rfl (by decide) (q_move e60_10) ?_
                    refine GoOps.q (v := .int .i64 p0) rfl rfl (by decide) (q_move e60_0) ?_
                    refine GoOps.q (v := .bool (decide (s58 ≤ p0))) rfl rfl (by decide) (q_leq rfl rfl) ?_
                    refine GoOps.nil ?_
                    rcases bor (decide (s58 ≤ p0)) with hc62 | hc62
                    · have h := h.1 hc62
                      refine Go.condT (btT rfl hc62) ?_
                      refine Go.skip ?_
                      refine Go.seq ?_
                      refine Go.block ?_
                      refine Go.seq ?_
                      refine Go.region rfl ?_
                      refine GoOps.q (v := .pointer y7) rfl rfl (by decide) (q_move e60_7) ?_
                      refine GoOps.q (v := .int .i64 s58) rfl rfl (by decide) (q_move e60_10) ?_
                      refine call_dst rfl (by decide) body13 (ideal_Ideal_Read_s _ _ _ _ h) rfl ?_
                      rintro _ H63 ⟨y64, rfl, h⟩
                      refine GoOps.q (v := .pointer y9) rfl rfl (by decide) (q_move e60_8) ?_
                      refine GoOps.q (v := .int .i64 s58) rfl rfl (by decide) (q_move e60_10) ?_
                      refine call_dst rfl (by decide) body21 (keelsonref22_Ideal_Read_s _ _ _ _ h) rfl ?_
                      rintro _ H65 ⟨y66, rfl, h⟩
                      refine call_dst rfl (by decide) body12 (keelsonalike_Bytes_s _ _ _ _ h) rfl ?_
                      rintro _ H67 ⟨y68, rfl, h⟩
                      refine GoOps.q (v := .bool (!y68)) rfl rfl (by decide) (q_not rfl) ?_
                      refine GoOps.q (v := .bool (!y68)) rfl rfl (by decide) (q_move rfl) ?_
                      refine join_ops 9 (fun ρ (s70 : Bool) => ρ 0 = .int .i64 p0 ∧ ρ 1 = Sl.v p1 ∧ ρ 2 = .int .i64 p2 ∧ ρ 7 = .pointer y7 ∧ ρ 8 = .pointer y9 ∧ ρ 9 = .int .i64 s19 ∧ ρ 10 = .int .i64 s58 ∧ ρ 108 = .bool s70) h ?_ ?_ <;> clear h
                      · intro s70 H72 ρ h hE
                        obtain ⟨e73_0, e73_1, e73_2, e73_7, e73_8, e73_9, e73_10, e73_108⟩ := hE
                        refine GoOps.nil ?_
                        rcases bor s70 with hc74 | hc74
                        · have h := h.1 hc74
                          refine Go.condT (btT e73_108 hc74) ?_
                          refine Go.seq ?_
                          refine Go.region rfl ?_
                          refine GoOps.q (v := .bool false) rfl rfl (by decide) (q_assign rfl) ?_
                          refine GoOps.nil ?_
                          exact Go.ret ⟨.inl rfl, _, _, DOk.nil, (resOk1 Try.results4 rfl), ⟨_, rfl, h⟩⟩
                        · have h := h.2 hc74
                          refine Go.condF (btF e73_108 hc74) ?_
                          refine Go.skip ?_
                          refine Go.inBlock ?_
                          refine Go.region rfl ?_
                          refine GoOps.q (v := .int .i64 s58) rfl rfl (by decide) (q_move e73_10) ?_
                          refine GoOps.q (v := .int .i64 (IntKind.wrap .i64 (s58 + 1))) rfl rfl (by decide) (q_add rfl rfl) ?_
                          refine GoOps.q (v := .int .i64 (IntKind.wrap .i64 (s58 + 1))) rfl rfl (by decide) (q_assign rfl) ?_
                          refine GoOps.nil ?_
                          exact hagain59 _ _ _ h ⟨e73_0, e73_1, e73_2, e73_7, e73_8, e73_9, rfl⟩
                      · intro j71 hj71 h
                        rcases bor (!y68) with hc69 | hc69
                        · have h := h.1 hc69
                          refine no_dst (want_no rfl rfl rfl hc69) rfl (by decide) ?_
                          refine no_dst (want_no rfl rfl rfl hc69) rfl (by decide) ?_
                          refine no_dst (want_no rfl rfl rfl hc69) rfl (by decide) ?_
                          refine no_dst (want_no rfl rfl rfl hc69) rfl (by decide) ?_
                          refine no_dst (want_no rfl rfl rfl hc69) rfl (by decide) ?_
                          refine no_dst (want_no rfl rfl rfl hc69) rfl (by decide) ?_
                          refine no_dst (want_no rfl rfl rfl hc69) rfl (by decide) ?_
                          refine no_dst (want_no rfl rfl rfl hc69) rfl (by decide) ?_
                          refine GoOps.q (v := .bool true) rfl rfl (by decide) (q_pickT (btT rfl hc69) rfl) ?_
                          exact hj71 true _ _ h (by exact ⟨e60_0, e60_1, e60_2, e60_7, e60_8, e60_9, e60_10, rfl⟩)
                        · have h := h.2 hc69
                          refine GoOps.q (v := .pointer y7) (want_yes rfl rfl rfl hc69) rfl (by decide) (q_move e60_7) ?_
                          refine GoOps.q (v := .int .i64 s58) (want_yes rfl rfl rfl hc69) rfl (by decide) (q_move e60_10) ?_
                          refine call_dst (want_yes rfl rfl rfl hc69) (by decide) body11 (ideal_Ideal_Look_s _ _ _ _ h) rfl ?_
                          rintro _ H75 ⟨y76, rfl, h⟩
                          refine GoOps.q (v := .pointer y9) (want_yes rfl rfl rfl hc69) rfl (by decide) (q_move e60_8) ?_
                          refine GoOps.q (v := .int .i64 s58) (want_yes rfl rfl rfl hc69) rfl (by decide) (q_move e60_10) ?_
                          refine call_dst (want_yes rfl rfl rfl hc69) (by decide) body22 (keelsonref22_Ideal_Look_s _ _ _ _ h) rfl ?_
                          rintro _ H77 ⟨y78, rfl, h⟩
                          refine call_dst (want_yes rfl rfl rfl hc69) (by decide) body12 (keelsonalike_Bytes_s _ _ _ _ h) rfl ?_
                          rintro _ H79 ⟨y80, rfl, h⟩
                          refine GoOps.q (v := .bool (!y80)) (want_yes rfl rfl rfl hc69) rfl (by decide) (q_not rfl) ?_
                          refine GoOps.q (v := .bool (!y80)) rfl rfl (by decide) (q_pickF (btF rfl hc69) rfl) ?_
                          exact hj71 (!y80) _ _ h (by exact ⟨e60_0, e60_1, e60_2, e60_7, e60_8, e60_9, e60_10, rfl⟩)
                    · have h := h.2 hc62
                      refine Go.condF (btF rfl hc62) ?_
                      refine Go.exit rfl ?_
                      refine Go.inBlock ?_
                      refine Go.region rfl ?_
                      refine GoOps.q (v := .int .i64 s19) rfl rfl (by decide) (q_move e60_9) ?_
                      refine GoOps.q (v := .int .i64 (IntKind.wrap .i64 (s19 + 1))) rfl rfl (by decide) (q_add rfl rfl) ?_
                      refine GoOps.q (v := .int .i64 (IntKind.wrap .i64 (s19 + 1))) rfl rfl (by decide) (q_assign rfl) ?_
                      refine GoOps.nil ?_
                      exact hagain20 _ _ _ h ⟨e60_0, e60_1, e60_2, e60_7, e60_8, rfl⟩
                · intro j54 hj54 h
                  rcases bor s48 with hc52 | hc52
                  · have h := h.1 hc52
                    refine plan_skip (i := 32) (d := 78) (S2 := 8589934591) rfl (by decide +kernel) (want_no rfl rfl rfl hc52) ?_
                    refine plan_skip (i := 33) (d := 79) (S2 := 17179869183) rfl (by decide +kernel) (want_no rfl rfl rfl hc52) ?_
                    refine plan_skip (i := 34) (d := 80) (S2 := 34359738367) rfl (by decide +kernel) (want_no rfl rfl rfl hc52) ?_
                    refine plan_skip (i := 35) (d := 81) (S2 := 68719476735) rfl (by decide +kernel) (want_no rfl rfl rfl hc52) ?_
                    refine plan_skip (i := 36) (d := 82) (S2 := 137438953471) rfl (by decide +kernel) (want_no rfl rfl rfl hc52) ?_
                    refine plan_skip (i := 37) (d := 83) (S2 := 274877906943) rfl (by decide +kernel) (want_no rfl rfl rfl hc52) ?_
                    refine plan_skip (i := 38) (d := 84) (S2 := 549755813887) rfl (by decide +kernel) (want_no rfl rfl rfl hc52) ?_
                    refine plan_pure (i := 39) (d := 85) (S2 := 1099511627775) (v := .bool true) rfl (by decide +kernel) rfl (q_pickT (btT rfl hc52) rfl) ?_
                    refine plan_weaken (L2 := [37, 28, 19]) (by decide) ?_
                    exact hj54 _ _ _ h ⟨e51_0, e51_1, e51_2, e51_7, e51_8, e51_9, rfl⟩
                  · have h := h.2 hc52
                    refine plan_pure (i := 32) (d := 78) (S2 := 8589934591) (v := .pointer y7) rfl (by decide +kernel) (want_yes rfl rfl rfl hc52) (q_move e51_7) ?_
                    refine plan_pure (i := 34) (d := 80) (S2 := 25769803775) (v := .pointer y9) rfl (by decide +kernel) (want_yes rfl rfl rfl hc52) (q_move e51_8) ?_
                    obtain ⟨a81, ha82, h⟩ := h
                    refine plan_pure (i := 35) (d := 81) (S2 := 60129542143) (v := .pointer (some a81)) rfl (by decide +kernel) (want_yes rfl rfl rfl hc52) (q_nilCheck (ptn rfl ha82)) ?_
                    refine plan_pure (i := 36) (d := 82) (S2 := 128849018879) (v := .pointer (some (a81.add 4))) rfl (by decide +kernel) (want_yes rfl rfl rfl hc52) (q_fieldAddr foff41_4 rfl) ?_
                    obtain ⟨x83, hx84, h⟩ := h
                    refine plan_load (i := 37) (d := 83) (S2 := 266287972351) (v := .int .i64 x83) rfl (by decide +kernel) (want_yes rfl rfl rfl hc52) (q_load scalar3 rfl hx84) ?_
                    refine plan_one (j := 33) (S2 := 274877906943) (by decide +kernel) rfl (by decide) (want_yes rfl rfl rfl hc52) ?_
                    refine do_call2 body14 (ideal_Ideal_Done_s _ _ _ h) rfl ?_
                    rintro _ H85 ⟨y86, rfl, h⟩
                    obtain ⟨hr87, h⟩ := h
                    refine ⟨_, (.inr ⟨⟨_, _, rfl, rfl, q_load scalar3 rfl hr87⟩, _, rfl, .inl ⟨⟨[29, 30, 31, 33], by decide +kernel, rfl⟩, .inl ⟨⟨[20, 21, 22, 24, 31, 33], by decide +kernel, rfl⟩, rfl⟩⟩⟩), ?_⟩
                    refine plan_pure (i := 38) (d := 84) (S2 := 549755813887) (v := .bool (y86 != x83)) rfl (by decide +kernel) (want_yes rfl rfl rfl hc52) (q_neq rfl rfl) ?_
                    refine plan_pure (i := 39) (d := 85) (S2 := 1099511627775) (v := .bool (y86 != x83)) rfl (by decide +kernel) rfl (q_pickF (btF rfl hc52) rfl) ?_
                    refine plan_weaken (L2 := [37, 28, 19]) (by decide) ?_
                    exact hj54 _ _ _ h ⟨e51_0, e51_1, e51_2, e51_7, e51_8, e51_9, rfl⟩
              · intro j49 hj49 h
                rcases bor s43 with hc47 | hc47
                · have h := h.1 hc47
                  refine plan_skip (i := 23) (d := 69) (S2 := 16777215) rfl (by decide +kernel) (want_no rfl rfl rfl hc47) ?_
                  refine plan_skip (i := 24) (d := 70) (S2 := 33554431) rfl (by decide +kernel) (want_no rfl rfl rfl hc47) ?_
                  refine plan_skip (i := 25) (d := 71) (S2 := 67108863) rfl (by decide +kernel) (want_no rfl rfl rfl hc47) ?_
                  refine plan_skip (i := 26) (d := 72) (S2 := 134217727) rfl (by decide +kernel) (want_no rfl rfl rfl hc47) ?_
                  refine plan_skip (i := 27) (d := 73) (S2 := 268435455) rfl (by decide +kernel) (want_no rfl rfl rfl hc47) ?_
                  refine plan_skip (i := 28) (d := 74) (S2 := 536870911) rfl (by decide +kernel) (want_no rfl rfl rfl hc47) ?_
                  refine plan_skip (i := 29) (d := 75) (S2 := 1073741823) rfl (by decide +kernel) (want_no rfl rfl rfl hc47) ?_
                  refine plan_pure (i := 30) (d := 76) (S2 := 2147483647) (v := .bool true) rfl (by decide +kernel) rfl (q_pickT (btT rfl hc47) rfl) ?_
                  refine plan_weaken (L2 := [28, 19]) (by decide) ?_
                  exact hj49 _ _ _ h ⟨e46_0, e46_1, e46_2, e46_7, e46_8, e46_9, rfl⟩
                · have h := h.2 hc47
                  refine plan_pure (i := 23) (d := 69) (S2 := 16777215) (v := .pointer y7) rfl (by decide +kernel) (want_yes rfl rfl rfl hc47) (q_move e46_7) ?_
                  refine plan_pure (i := 25) (d := 71) (S2 := 50331647) (v := .pointer y9) rfl (by decide +kernel) (want_yes rfl rfl rfl hc47) (q_move e46_8) ?_
                  obtain ⟨a88, ha89, h⟩ := h
                  refine plan_pure (i := 26) (d := 72) (S2 := 117440511) (v := .pointer (some a88)) rfl (by decide +kernel) (want_yes rfl rfl rfl hc47) (q_nilCheck (ptn rfl ha89)) ?_
                  refine plan_pure (i := 27) (d := 73) (S2 := 251658239) (v := .pointer (some (a88.add 3))) rfl (by decide +kernel) (want_yes rfl rfl rfl hc47) (q_fieldAddr foff41_3 rfl) ?_
                  obtain ⟨x90, hx91, h⟩ := h
                  refine plan_load (i := 28) (d := 74) (S2 := 520093695) (v := .int .i64 x90) rfl (by decide +kernel) (want_yes rfl rfl rfl hc47) (q_load scalar3 rfl hx91) ?_
                  refine plan_one (j := 24) (S2 := 536870911) (by decide +kernel) rfl (by decide) (want_yes rfl rfl rfl hc47) ?_
                  refine do_call2 body15 (ideal_Ideal_Seq_s _ _ _ h) rfl ?_
                  rintro _ H92 ⟨y93, rfl, h⟩
                  obtain ⟨hr94, h⟩ := h
                  refine ⟨_, (.inr ⟨⟨_, _, rfl, rfl, q_load scalar3 rfl hr94⟩, _, rfl, .inl ⟨⟨[20, 21, 22, 24], by decide +kernel, rfl⟩, rfl⟩⟩), ?_⟩
                  refine plan_pure (i := 29) (d := 75) (S2 := 1073741823) (v := .bool (y93 != x90)) rfl (by decide +kernel) (want_yes rfl rfl rfl hc47) (q_neq rfl rfl) ?_
                  refine plan_pure (i := 30) (d := 76) (S2 := 2147483647) (v := .bool (y93 != x90)) rfl (by decide +kernel) rfl (q_pickF (btF rfl hc47) rfl) ?_
                  refine plan_weaken (L2 := [28, 19]) (by decide) ?_
                  exact hj49 _ _ _ h ⟨e46_0, e46_1, e46_2, e46_7, e46_8, e46_9, rfl⟩
            · intro j44 hj44 h
              rcases bor (y38 != y41) with hc42 | hc42
              · have h := h.1 hc42
                refine plan_skip (i := 14) (d := 60) (S2 := 32767) rfl (by decide +kernel) (want_no rfl rfl rfl hc42) ?_
                refine plan_skip (i := 15) (d := 61) (S2 := 65535) rfl (by decide +kernel) (want_no rfl rfl rfl hc42) ?_
                refine plan_skip (i := 16) (d := 62) (S2 := 131071) rfl (by decide +kernel) (want_no rfl rfl rfl hc42) ?_
                refine plan_skip (i := 17) (d := 63) (S2 := 262143) rfl (by decide +kernel) (want_no rfl rfl rfl hc42) ?_
                refine plan_skip (i := 18) (d := 64) (S2 := 524287) rfl (by decide +kernel) (want_no rfl rfl rfl hc42) ?_
                refine plan_skip (i := 19) (d := 65) (S2 := 1048575) rfl (by decide +kernel) (want_no rfl rfl rfl hc42) ?_
                refine plan_skip (i := 20) (d := 66) (S2 := 2097151) rfl (by decide +kernel) (want_no rfl rfl rfl hc42) ?_
                refine plan_pure (i := 21) (d := 67) (S2 := 4194303) (v := .bool true) rfl (by decide +kernel) rfl (q_pickT (btT rfl hc42) rfl) ?_
                refine plan_weaken (L2 := [19]) (by decide) ?_
                exact hj44 _ _ _ h ⟨e28_0, e28_1, e28_2, e28_7, e28_8, e28_9, rfl⟩
              · have h := h.2 hc42
                refine plan_pure (i := 14) (d := 60) (S2 := 32767) (v := .pointer y7) rfl (by decide +kernel) (want_yes rfl rfl rfl hc42) (q_move e28_7) ?_
                refine plan_pure (i := 16) (d := 62) (S2 := 98303) (v := .pointer y9) rfl (by decide +kernel) (want_yes rfl rfl rfl hc42) (q_move e28_8) ?_
                obtain ⟨a95, ha96, h⟩ := h
                refine plan_pure (i := 17) (d := 63) (S2 := 229375) (v := .pointer (some a95)) rfl (by decide +kernel) (want_yes rfl rfl rfl hc42) (q_nilCheck (ptn rfl ha96)) ?_
                refine plan_pure (i := 18) (d := 64) (S2 := 491519) (v := .pointer (some (a95.add 2))) rfl (by decide +kernel) (want_yes rfl rfl rfl hc42) (q_fieldAddr foff41_2 rfl) ?_
                obtain ⟨x97, hx98, h⟩ := h
                refine plan_load (i := 19) (d := 65) (S2 := 1015807) (v := .int .i64 x97) rfl (by decide +kernel) (want_yes rfl rfl rfl hc42) (q_load scalar3 rfl hx98) ?_
                refine plan_one (j := 15) (S2 := 1048575) (by decide +kernel) rfl (by decide) (want_yes rfl rfl rfl hc42) ?_
                refine do_call2 body9 (ideal_Ideal_Epoch_s _ _ _ h) rfl ?_
                rintro _ H99 ⟨y100, rfl, h⟩
                obtain ⟨hr101, h⟩ := h
                refine ⟨_, (.inr ⟨⟨_, _, rfl, rfl, q_load scalar3 rfl hr101⟩, _, rfl, rfl⟩), ?_⟩
                refine plan_pure (i := 20) (d := 66) (S2 := 2097151) (v := .bool (y100 != x97)) rfl (by decide +kernel) (want_yes rfl rfl rfl hc42) (q_neq rfl rfl) ?_
                refine plan_pure (i := 21) (d := 67) (S2 := 4194303) (v := .bool (y100 != x97)) rfl (by decide +kernel) rfl (q_pickF (btF rfl hc42) rfl) ?_
                exact hj44 _ _ _ h ⟨e28_0, e28_1, e28_2, e28_7, e28_8, e28_9, rfl⟩
          · intro j26 hj26 h
            rcases bor ((iand .i64 (ishr .i64 p2 (Int.tmod s19 60)) 7) == 7) with hc102 | hc102
            · have h := h.1 hc102
              refine Go.condT (btT rfl hc102) ?_
              refine Go.seq ?_
              refine Go.region rfl ?_
              refine GoOps.q (v := .pointer y7) rfl rfl (by decide) (q_move e21_7) ?_
              refine call_dst rfl (by decide) body16 (ideal_Ideal_Forget_s _ _ _ h) rfl ?_
              rintro _ H103 ⟨rfl, h⟩
              refine GoOps.nil ?_
              refine Go.region rfl ?_
              refine GoOps.q (v := .pointer y9) rfl rfl (by decide) (q_move e21_8) ?_
              refine call_dst rfl (by decide) body19 (keelsonref22_Ideal_Forget_s _ _ _ h) rfl ?_
              rintro _ H104 ⟨rfl, h⟩
              refine GoOps.nil ?_
              exact hj26 _ _ _ h ⟨e21_0, e21_1, e21_2, e21_7, e21_8, e21_9⟩
            · have h := h.2 hc102
              refine Go.condF (btF rfl hc102) ?_
              refine Go.skip ?_
              exact hj26 _ _ _ h ⟨e21_0, e21_1, e21_2, e21_7, e21_8, e21_9⟩
        · have h := h.2 hc23
          refine Go.condF (btF rfl hc23) ?_
          refine Go.exit rfl ?_
          refine Go.seq ?_
          refine Go.region rfl ?_
          refine GoOps.q (v := .pointer y7) rfl rfl (by decide) (q_move e21_7) ?_
          refine call_dst rfl (by decide) body23 (keelsonlaw24_all_s _ _ _ h) rfl ?_
          rintro _ H105 ⟨y106, y107, rfl, h⟩
          refine GoOps.q (v := .tuple #[Sl.v y106, .bool y107]) rfl rfl (by decide) (q_move rfl) ?_
          refine GoOps.q (v := Sl.v y106) rfl rfl (by decide) (q_extract rfl rfl) ?_
          refine GoOps.q (v := .bool y107) rfl rfl (by decide) (q_extract rfl rfl) ?_
          refine GoOps.q (v := Sl.v y106) rfl rfl (by decide) (q_assign rfl) ?_
          refine GoOps.q (v := .bool y107) rfl rfl (by decide) (q_assign rfl) ?_
          refine GoOps.nil ?_
          refine Go.seq ?_
          refine Go.region rfl ?_
          refine GoOps.q (v := .bool y107) rfl rfl (by decide) (q_move rfl) ?_
          refine GoOps.q (v := .bool y107) rfl rfl (by decide) (q_move rfl) ?_
          refine join_ops 7 (fun ρ (s109 : Bool) => ρ 122 = .bool s109) h ?_ ?_ <;> clear h
          · intro s109 H111 ρ h hE
            have e112_122 := hE
            refine GoOps.q (v := .bool s109) rfl rfl (by decide) (q_move e112_122) ?_
            refine join_ops 2 (fun ρ (s114 : Bool) => ρ 125 = .bool s114) h ?_ ?_ <;> clear h
            · intro s114 H116 ρ h hE
              have e117_125 := hE
              refine GoOps.q (v := .bool s114) rfl rfl (by decide) (q_assign e117_125) ?_
              refine GoOps.nil ?_
              exact Go.ret ⟨.inl rfl, _, _, DOk.nil, (resOk1 Try.results4 rfl), ⟨_, rfl, h⟩⟩
            · intro j115 hj115 h
              rcases bor s109 with hc113 | hc113
              · have h := h.1 hc113
                refine call_dst (want_yes rfl rfl rfl hc113) (by decide) body6 (keelsonlaw24_awake_s _ _ h) rfl ?_
                rintro _ H118 ⟨y119, rfl, h⟩
                refine GoOps.q (v := .bool y119) rfl rfl (by decide) (q_pickT (btT rfl hc113) rfl) ?_
                exact hj115 y119 _ _ h (by exact rfl)
              · have h := h.2 hc113
                refine no_dst (want_no rfl rfl rfl hc113) rfl (by decide) ?_
                refine GoOps.q (v := .bool false) rfl rfl (by decide) (q_pickF (btF rfl hc113) rfl) ?_
                exact hj115 false _ _ h (by exact rfl)
          · intro j110 hj110 h
            rcases bor y107 with hc108 | hc108
            · have h := h.1 hc108
              refine GoOps.q (v := Sl.v y106) (want_yes rfl rfl rfl hc108) rfl (by decide) (q_move rfl) ?_
              refine GoOps.q (v := .pointer y9) (want_yes rfl rfl rfl hc108) rfl (by decide) (q_move e21_8) ?_
              obtain ⟨a120, ha121, h⟩ := h
              refine GoOps.q (v := .pointer (some a120)) (want_yes rfl rfl rfl hc108) rfl (by decide) (q_nilCheck (ptn rfl ha121)) ?_
              refine GoOps.q (v := .pointer (some (a120.add 0))) (want_yes rfl rfl rfl hc108) rfl (by decide) (q_fieldAddr foff41_0 rfl) ?_
              obtain ⟨x122, hx123, h⟩ := h
              refine GoOps.q (v := Sl.v x122) (want_yes rfl rfl rfl hc108) rfl (by decide) (q_load scalar26 rfl hx123) ?_
              refine call_dst (want_yes rfl rfl rfl hc108) (by decide) body24 (keelsonalike_Blocks_s _ _ _ _ h) rfl ?_
              rintro _ H124 ⟨y125, rfl, h⟩
              refine GoOps.q (v := .bool y125) rfl rfl (by decide) (q_pickT (btT rfl hc108) rfl) ?_
              exact hj110 y125 _ _ h (by exact rfl)
            · have h := h.2 hc108
              refine no_dst (want_no rfl rfl rfl hc108) rfl (by decide) ?_
              refine no_dst (want_no rfl rfl rfl hc108) rfl (by decide) ?_
              refine no_dst (want_no rfl rfl rfl hc108) rfl (by decide) ?_
              refine no_dst (want_no rfl rfl rfl hc108) rfl (by decide) ?_
              refine no_dst (want_no rfl rfl rfl hc108) rfl (by decide) ?_
              refine no_dst (want_no rfl rfl rfl hc108) rfl (by decide) ?_
              refine GoOps.q (v := .bool false) rfl rfl (by decide) (q_pickF (btF rfl hc108) rfl) ?_
              exact hj110 false _ _ h (by exact rfl)

/-- keelson.ideal.Fold -/
def ideal_Fold (p0 : Int) (p1 : Int) (p2 : Sl) (H : PH) (Q : Sl → PH → Prop) : Prop :=
  mNew H (row [.slice none 0 0] 26) fun a1 H2 =>
  ideal_New p0 H2 fun y5 H4 =>
  mJoin (fun (s6 : Unit) (H8 : PH) =>
  ideal_Ideal_All y5 H8 fun y11 H10 =>
  IterH Try.prog y11 (fun (vs12 : List Value) (q13 : Unit) (H14 : PH) (y15 : Nat → Unit → PH → Prop) =>
  ∃ (x16 : Int) (x17 : Sl), vs12 = [.int .i64 x16, Sl.v x17] ∧
  mLd Sl.v H14 a1 fun x18 =>
  mNewS H14 (row [Sl.v x17] 27) 1 fun r20 H21 =>
  mApp H21 27 1 24 [.slice none 0 0] x18 r20 fun r23 H24 =>
  mSt H24 a1 ([Sl.v r23]) fun H25 =>
  y15 0 () H25) () H10 fun _ q28 H29 =>
  mLd Sl.v H29 a1 fun x30 =>
  mSt H29 a1 ([Sl.v x30]) fun H32 =>
  mLd Sl.v H32 a1 fun x34 =>
  Q x34 H32)
  fun j7 =>
  mLoop (fun (s36 : Int) (H39 : PH) (again37 : Int → PH → Prop) =>
  mIf (decide (s36 < (p2.len : Int)))
  (mIdx p2 5 s36 fun a41 =>
  mLdR (fun (x : (Int × Int × Int × Int × Sl)) => [.int .i64 x.1, .int .i64 x.2.1, .int .i64 x.2.2.1, .int .i64 x.2.2.2.1, Sl.v x.2.2.2.2]) H39 a41 5 fun x43 =>
  mNew H39 (row [.int .i64 0, .int .i64 0, .int .i64 0, .int .i64 0, .slice none 0 0] 29) fun a45 H46 =>
  mSt H46 a45 ([.int .i64 x43.1, .int .i64 x43.2.1, .int .i64 x43.2.2.1, .int .i64 x43.2.2.2.1, Sl.v x43.2.2.2.2]) fun H48 =>
  ideal_Ideal_Epoch y5 H48 fun y51 H50 =>
  mIf (decide (p1 ≤ y51))
  (j7 () H50)
  (mLdR (fun (x : (Int × Int × Int × Int × Sl)) => [.int .i64 x.1, .int .i64 x.2.1, .int .i64 x.2.2.1, .int .i64 x.2.2.2.1, Sl.v x.2.2.2.2]) H50 a45 5 fun x53 =>
  ideal_Ideal_Do y5 (x53.1, x53.2.1, x53.2.2.1, x53.2.2.2.1, x53.2.2.2.2) H50 fun y56 H55 =>
  again37 (IntKind.wrap .i64 (s36 + 1)) H55))
  (j7 () H39))
  0 H4

set_option maxRecDepth 20000 in
set_option maxHeartbeats 1000000 in
theorem ideal_Fold_s (p0 : Int) (p1 : Int) (p2 : Sl) (H : PH) (Q : Sl → PH → Prop) (h : ideal_Fold p0 p1 p2 H Q) :
    CallsH Try.prog 26 #[.int .i64 p0, .int .i64 p1, Sl.v p2] H (fun v H' => ∃ (r0 : Sl), v = Sl.v r0 ∧ Q r0 H') := by
  unfold ideal_Fold at h
  refine callsH_of_goM Try.func26 rfl Try.ntmps26 (Nat.le_of_ble_eq_true rfl) ?_
  intro D M hM hB hA
  refine Go.seq ?_
  refine Go.region rfl ?_
  refine op_dst rfl rfl (by decide) (do_new zero26 rfl fun a1 H2 hb3 => ?_) 
  have h := h a1 H2 hb3
  refine GoOps.nil ?_
  refine Go.seq ?_
  refine Go.region rfl ?_
  refine GoOps.q (v := .int .i64 p0) rfl rfl (by decide) (q_move rfl) ?_
  refine call_dst rfl (by decide) body7 (ideal_New_s _ _ _ h) rfl ?_
  rintro _ H4 ⟨y5, rfl, h⟩
  refine GoOps.q (v := .pointer y5) rfl rfl (by decide) (q_assign rfl) ?_
  refine GoOps.nil ?_
  refine Go.seq ?_
  refine Go.seq ?_
  refine Go.region rfl ?_
  refine GoOps.q (v := Sl.v p2) rfl rfl (by decide) (q_move rfl) ?_
  refine GoOps.q (v := .int .i64 (p2.len : Int)) rfl rfl (by decide) (q_len Try.underlying36 rfl (ls1 rfl)) ?_
  refine GoOps.q (v := .int .i64 0) rfl rfl (by decide) (q_move rfl) ?_
  refine GoOps.nil ?_
  refine join_goM 1 (fun _ => ()) (fun ρ (s6 : Unit) => ρ 6 = .pointer (some a1) ∧ ρ 7 = .pointer y5) hB h ?_ ?_ <;> clear h
  · intro s6 H8 ρ h hE
    obtain ⟨e9_6, e9_7⟩ := hE
    intro D M hM hB hA
    refine Go.seq ?_
    refine Go.seq ?_
    refine Go.region rfl ?_
    refine GoOps.q (v := .pointer y5) rfl rfl (by decide) (q_move e9_7) ?_
    refine call_dst rfl (by decide) body38 (ideal_Ideal_All_s _ _ _ h) rfl ?_
    rintro y11 H10 ⟨_, rfl, h⟩
    refine GoOps.nil ?_
    refine Go.block ?_
    refine go_range0 (g := ()) h rfl (fun _ _ _ h => h) rfl hM hB hA trivial ?_ ?_ <;> clear h
    · rintro _ q13 H14 y15 ⟨x16, x17, rfl, h⟩
      refine ⟨rfl, fun lp Bx r hr => ?_⟩
      clear hM hB hA
      intro D M hM hB hA
      refine Go.region rfl ?_
      refine GoOps.q (v := Sl.v x17) rfl rfl (by decide) (q_assign rfl) ?_
      refine GoOps.nil ?_
      refine go_begin (g := ()) hr hB hA fun M hB hA => ?_
      have hM : Mk (some lp) D M := trivial
      refine Go.block ?_
      refine Go.region rfl ?_
      obtain ⟨x18, hx19, h⟩ := h
      refine GoOps.q (v := Sl.v x18) rfl rfl (by decide) (q_load scalar26 e9_6 hx19) ?_
      refine GoOps.q (v := Sl.v x17) rfl rfl (by decide) (q_move rfl) ?_
      refine op_dst rfl rfl (by decide) (do_bs (ps := [(0, Sl.v x17)]) (zs := [.slice none 0 0]) (cs := [Sl.v x17]) slice26 zero27 rfl rfl (by decide) (by decide) rfl rfl fun r20 H21 hb22 => ?_) 
      have h := h r20 H21 hb22
      refine op_dst rfl rfl (by decide) (do_append (zs := [.slice none 0 0]) slice26 bytes27 (by decide) zero27 rfl rfl (by decide) rfl rfl Try.underlying26 rfl h fun r23 H24 h => ?_) 
      obtain ⟨q26b, q26o, q26c, q26e, hq26a, hq26b, hq26l, hq26v, h⟩ := h
      refine op_none rfl rfl (do_store (vs := [Sl.v r23]) size26 (pta e9_6 hq26a) rfl rfl rfl hq26v hq26b hq26l ?_) 
      refine GoOps.nil ?_
      refine Go.inBlock ?_
      exact Go.fallM (g := ()) hM hB hA ⟨0, rfl, h⟩
    · intro q28 H29 h
      intro D M hM hB hA
      refine Go.inBlock ?_
      refine Go.seq ?_
      refine Go.region rfl ?_
      obtain ⟨x30, hx31, h⟩ := h
      refine GoOps.q (v := Sl.v x30) rfl rfl (by decide) (q_load scalar26 e9_6 hx31) ?_
      obtain ⟨q33b, q33o, q33c, q33e, hq33a, hq33b, hq33l, hq33v, h⟩ := h
      refine op_none rfl rfl (do_store (vs := [Sl.v x30]) size26 (pta e9_6 hq33a) rfl rfl rfl hq33v hq33b hq33l ?_) 
      refine GoOps.nil ?_
      obtain ⟨x34, hx35, h⟩ := h
      exact Go.retM (g := ()) hM hB hA ⟨.inl rfl, _, (resOkV1 Try.results26 (rv_cell scalar26 e9_6 hx35)), ⟨_, rfl, h⟩⟩
  · intro j7 hj7 h
    refine Go.block ?_
    refine loop_goM (g := ()) (fun _ => ()) (fun ρ (s36 : Int) => ρ 1 = .int .i64 p1 ∧ ρ 6 = .pointer (some a1) ∧ ρ 7 = .pointer y5 ∧ ρ 14 = Sl.v p2 ∧ ρ 15 = .int .i64 (p2.len : Int) ∧ ρ 16 = .int .i64 s36) hM hB hA h ⟨rfl, rfl, rfl, rfl, rfl, rfl⟩ rfl ?_
    clear h
    intro ρ s36 H39 again37 hE h hagain37
    obtain ⟨e38_1, e38_6, e38_7, e38_14, e38_15, e38_16⟩ := hE
    intro D M hM hB hA
    refine Go.seq ?_
    refine Go.region rfl ?_
    refine GoOps.q (v := .bool (decide (s36 < (p2.len : Int)))) rfl rfl (by decide) (q_lss e38_16 e38_15) ?_
    refine GoOps.nil ?_
    refine Go.seq ?_
    rcases bor (decide (s36 < (p2.len : Int))) with hc40 | hc40
    · have h := h.1 hc40
      refine Go.condT (btT rfl hc40) ?_
      refine Go.skip ?_
      refine Go.seq ?_
      refine Go.block ?_
      refine Go.seq ?_
      refine Go.region rfl ?_
      obtain ⟨a41, ha42, h⟩ := h
      refine GoOps.q (v := .pointer (some a41)) rfl rfl (by decide) (q_idx slice36 ha42 e38_14 e38_16) ?_
      obtain ⟨x43, hx44, h⟩ := h
      refine GoOps.q (v := .agg ([.int .i64 x43.1, .int .i64 x43.2.1, .int .i64 x43.2.2.1, .int .i64 x43.2.2.2.1, Sl.v x43.2.2.2.2] : List Value).toArray) rfl rfl (by decide) (q_loadA aggr29 rfl hx44) ?_
      refine op_dst rfl rfl (by decide) (do_new zero29 rfl fun a45 H46 hb47 => ?_) 
      have h := h a45 H46 hb47
      obtain ⟨q49b, q49o, q49c, q49e, hq49a, hq49b, hq49l, hq49v, h⟩ := h
      refine op_none rfl rfl (do_store (vs := [.int .i64 x43.1, .int .i64 x43.2.1, .int .i64 x43.2.2.1, .int .i64 x43.2.2.2.1, Sl.v x43.2.2.2.2]) size29 (pta rfl hq49a) rfl rfl rfl hq49v hq49b hq49l ?_) 
      refine GoOps.nil ?_
      refine Go.seq ?_
      refine Go.seq ?_
      refine Go.region rfl ?_
      refine GoOps.q (v := .pointer y5) rfl rfl (by decide) (q_move e38_7) ?_
      refine call_dst rfl (by decide) body9 (ideal_Ideal_Epoch_s _ _ _ h) rfl ?_
      rintro _ H50 ⟨y51, rfl, h⟩
      refine GoOps.q (v := .int .i64 p1) rfl rfl (by decide) (q_move e38_1) ?_
      refine GoOps.q (v := .bool (decide (p1 ≤ y51))) rfl rfl (by decide) (q_geq rfl rfl) ?_
      refine GoOps.nil ?_
      rcases bor (decide (p1 ≤ y51)) with hc52 | hc52
      · have h := h.1 hc52
        refine Go.condT (btT rfl hc52) ?_
        refine Go.exit rfl ?_
        exact hj7 () _ _ h (by exact ⟨e38_6, e38_7⟩) _ _ hM hB hA
      · have h := h.2 hc52
        refine Go.condF (btF rfl hc52) ?_
        refine Go.skip ?_
        refine Go.region rfl ?_
        refine GoOps.q (v := .pointer y5) rfl rfl (by decide) (q_move e38_7) ?_
        obtain ⟨x53, hx54, h⟩ := h
        refine GoOps.q (v := .agg ([.int .i64 x53.1, .int .i64 x53.2.1, .int .i64 x53.2.2.1, .int .i64 x53.2.2.2.1, Sl.v x53.2.2.2.2] : List Value).toArray) rfl rfl (by decide) (q_loadA aggr29 rfl hx54) ?_
        refine call_dst rfl (by decide) body10 (ideal_Ideal_Do_s _ _ _ _ h) rfl ?_
        rintro _ H55 ⟨y56, rfl, h⟩
        refine GoOps.nil ?_
        refine Go.inBlock ?_
        refine Go.region rfl ?_
        refine GoOps.q (v := .int .i64 (IntKind.wrap .i64 (s36 + 1))) rfl rfl (by decide) (q_add e38_16 rfl) ?_
        refine GoOps.q (v := .int .i64 (IntKind.wrap .i64 (s36 + 1))) rfl rfl (by decide) (q_move rfl) ?_
        refine GoOps.nil ?_
        exact hagain37 (IntKind.wrap .i64 (s36 + 1)) _ _ h (by exact ⟨e38_1, e38_6, e38_7, e38_14, e38_15, rfl⟩) _ _ hM hB hA
    · have h := h.2 hc40
      refine Go.condF (btF rfl hc40) ?_
      refine Go.exit rfl ?_
      exact hj7 () _ _ h (by exact ⟨e38_6, e38_7⟩) _ _ hM hB hA

/-- keelson.keelsonlaw24.IdealParts -/
def keelsonlaw24_IdealParts (p0 : Int) (p1 : Sl) (p2 : Int) (H : PH) (Q : Bool → PH → Prop) : Prop :=
  mJoin (fun (s2 : Bool) (H4 : PH) =>
  mJoin (fun (s7 : Bool) (H9 : PH) =>
  mIf s7
  (keelsonlaw24_awake H9 fun y13 H12 =>
  Q y13 H12)
  (mLoop (fun (s14 : Sl × Int × Int) (H17 : PH) (again15 : (Sl × Int × Int) → PH → Prop) =>
  mIf (decide (s14.2.2 < (p1.len : Int)))
  (mIdx p1 1 s14.2.2 fun a19 =>
  mLd (.int .i64) H17 a19 fun x21 =>
  keelsonlaw24_op x21 p0 s14.2.2 s14.2.1 H17 fun y24 H23 =>
  mNew H23 (row [.int .i64 0, .int .i64 0, .int .i64 0, .int .i64 0, .slice none 0 0] 29) fun a25 H26 =>
  mSt H26 a25 ([.int .i64 y24.1, .int .i64 y24.2.1, .int .i64 y24.2.2.1, .int .i64 y24.2.2.2.1, Sl.v y24.2.2.2.2]) fun H28 =>
  mLd (.int .i64) H28 (a25.add 0) fun x30 =>
  mJoin (fun (s32 : Int) (H34 : PH) =>
  mLdR (fun (x : (Int × Int × Int × Int × Sl)) => [.int .i64 x.1, .int .i64 x.2.1, .int .i64 x.2.2.1, .int .i64 x.2.2.2.1, Sl.v x.2.2.2.2]) H34 a25 5 fun x36 =>
  mNewS H34 (row [.int .i64 x36.1, .int .i64 x36.2.1, .int .i64 x36.2.2.1, .int .i64 x36.2.2.2.1, Sl.v x36.2.2.2.2] 29) 1 fun r38 H39 =>
  mApp H39 29 5 56 [.int .i64 0, .int .i64 0, .int .i64 0, .int .i64 0, .slice none 0 0] s14.1 r38 fun r41 H42 =>
  again15 (r41, s32, IntKind.wrap .i64 (s14.2.2 + 1)) H42)
  fun j33 =>
  mIf (x30 == 3)
  (j33 (IntKind.wrap .i64 (s14.2.1 + 1)) H28)
  (j33 s14.2.1 H28))
  (keelsonalike_Round p2 (IntKind.wrap .i64 (s14.2.1 + 2)) H17 fun y45 H44 =>
  ideal_Fold p0 y45 s14.1 H44 fun y47 H46 =>
  ideal_New p0 H46 fun y49 H48 =>
  mIf (Option.isNone y49)
  (Q false H48)
  (mLoop (fun (s51 : Int) (H54 : PH) (again52 : Int → PH → Prop) =>
  mJoin (fun (s56 : Bool) (H58 : PH) =>
  mIf s56
  (mIdx s14.1 5 s51 fun a61 =>
  mLdR (fun (x : (Int × Int × Int × Int × Sl)) => [.int .i64 x.1, .int .i64 x.2.1, .int .i64 x.2.2.1, .int .i64 x.2.2.2.1, Sl.v x.2.2.2.2]) H58 a61 5 fun x63 =>
  ideal_Ideal_Do y49 (x63.1, x63.2.1, x63.2.2.1, x63.2.2.2.1, x63.2.2.2.2) H58 fun y66 H65 =>
  mIf (!y66)
  (Q false H65)
  (again52 (IntKind.wrap .i64 (s51 + 1)) H65))
  (keelsonlaw24_all y49 H58 fun y69 y70 H68 =>
  mJoin (fun (s72 : Bool) (H74 : PH) =>
  mIf s72
  (Q false H74)
  (keelsonalike_Fill 99 H74 fun y78 H77 =>
  ideal_Ideal_Do y49 (1, 0, 0, 0, y78) H77 fun y80 H79 =>
  keelsonlaw24_all y49 H79 fun y82 y83 H81 =>
  mJoin (fun (s85 : Bool) (H87 : PH) =>
  mJoin (fun (s90 : Bool) (H92 : PH) =>
  Q s90 H92)
  fun j91 =>
  mIf s85
  (keelsonlaw24_awake H87 fun y95 H94 =>
  j91 y95 H94)
  (j91 false H87))
  fun j86 =>
  mIf y83
  (keelsonalike_Blocks y82 y47 H81 fun y97 H96 =>
  j86 y97 H96)
  (j86 false H81)))
  fun j73 =>
  mIf (!y70)
  (j73 true H68)
  (keelsonalike_Blocks y47 y69 H68 fun y99 H98 =>
  j73 (!y99) H98)))
  fun j57 =>
  mIf (decide (s51 < (s14.1.len : Int)))
  (ideal_Ideal_Epoch y49 H54 fun y101 H100 =>
  j57 (decide (y101 < y45)) H100)
  (j57 false H54))
  0 H48)))
  (Sl.nil, 0, 0) H9))
  fun j8 =>
  mIf s2
  (j8 true H4)
  (j8 (decide (60 < (p1.len : Int))) H4))
  fun j3 =>
  mIf (decide (p0 < 1))
  (j3 true H)
  (j3 (decide (64 < p0)) H)

set_option maxRecDepth 20000 in
set_option maxHeartbeats 1000000 in
theorem keelsonlaw24_IdealParts_s (p0 : Int) (p1 : Sl) (p2 : Int) (H : PH) (Q : Bool → PH → Prop) (h : keelsonlaw24_IdealParts p0 p1 p2 H Q) :
    CallsH Try.prog 5 #[.int .i64 p0, Sl.v p1, .int .i64 p2] H (fun v H' => ∃ (r0 : Bool), v = .bool r0 ∧ Q r0 H') := by
  unfold keelsonlaw24_IdealParts at h
  refine callsH_of_go Try.func5 rfl Try.ntmps5 (Nat.le_of_ble_eq_true rfl) ?_
  refine Go.seq ?_
  refine Go.region rfl ?_
  refine GoOps.q (v := .bool false) rfl rfl (by decide) (q_assign rfl) ?_
  refine GoOps.nil ?_
  refine Go.seq ?_
  refine Go.seq ?_
  refine Go.region rfl ?_
  refine GoOps.q (v := .int .i64 p0) rfl rfl (by decide) (q_move rfl) ?_
  refine GoOps.q (v := .bool (decide (p0 < 1))) rfl rfl (by decide) (q_lss rfl rfl) ?_
  refine GoOps.q (v := .bool (decide (p0 < 1))) rfl rfl (by decide) (q_move rfl) ?_
  refine join_ops 3 (fun ρ (s2 : Bool) => ρ 0 = .int .i64 p0 ∧ ρ 1 = Sl.v p1 ∧ ρ 2 = .int .i64 p2 ∧ ρ 24 = .bool s2) h ?_ ?_ <;> clear h
  · intro s2 H4 ρ h hE
    obtain ⟨e5_0, e5_1, e5_2, e5_24⟩ := hE
    refine GoOps.q (v := .bool s2) rfl rfl (by decide) (q_move e5_24) ?_
    refine join_ops 4 (fun ρ (s7 : Bool) => ρ 0 = .int .i64 p0 ∧ ρ 1 = Sl.v p1 ∧ ρ 2 = .int .i64 p2 ∧ ρ 29 = .bool s7) h ?_ ?_ <;> clear h
    · intro s7 H9 ρ h hE
      obtain ⟨e10_0, e10_1, e10_2, e10_29⟩ := hE
      refine GoOps.nil ?_
      rcases bor s7 with hc11 | hc11
      · have h := h.1 hc11
        refine Go.condT (btT e10_29 hc11) ?_
        refine Go.seq ?_
        refine Go.region rfl ?_
        refine call_dst rfl (by decide) body6 (keelsonlaw24_awake_s _ _ h) rfl ?_
        rintro _ H12 ⟨y13, rfl, h⟩
        refine GoOps.q (v := .bool y13) rfl rfl (by decide) (q_assign rfl) ?_
        refine GoOps.nil ?_
        exact Go.ret ⟨.inl rfl, _, _, DOk.nil, (resOk1 Try.results5 rfl), ⟨_, rfl, h⟩⟩
      · have h := h.2 hc11
        refine Go.condF (btF e10_29 hc11) ?_
        refine Go.skip ?_
        refine Go.seq ?_
        refine Go.region rfl ?_
        refine GoOps.q (v := Sl.v Sl.nil) rfl rfl (by decide) (q_assign rfl) ?_
        refine GoOps.nil ?_
        refine Go.seq ?_
        refine Go.region rfl ?_
        refine GoOps.q (v := .int .i64 0) rfl rfl (by decide) (q_assign rfl) ?_
        refine GoOps.nil ?_
        refine Go.seq ?_
        refine Go.seq ?_
        refine Go.region rfl ?_
        refine GoOps.q (v := .int .i64 0) rfl rfl (by decide) (q_assign rfl) ?_
        refine GoOps.nil ?_
        refine Go.block ?_
        refine loop_go (fun ρ (s14 : Sl × Int × Int) => ρ 0 = .int .i64 p0 ∧ ρ 1 = Sl.v p1 ∧ ρ 2 = .int .i64 p2 ∧ ρ 7 = Sl.v s14.1 ∧ ρ 8 = .int .i64 s14.2.1 ∧ ρ 9 = .int .i64 s14.2.2) h ⟨e10_0, e10_1, e10_2, rfl, rfl, rfl⟩ ?_
        clear h
        intro ρ s14 H17 again15 hE h hagain15
        obtain ⟨e16_0, e16_1, e16_2, e16_7, e16_8, e16_9⟩ := hE
        refine Go.seq ?_
        refine Go.seq ?_
        refine Go.region rfl ?_
        refine GoOps.q (v := .int .i64 s14.2.2) rfl rfl (by decide) (q_move e16_9) ?_
        refine GoOps.q (v := Sl.v p1) rfl rfl (by decide) (q_move e16_1) ?_
        refine GoOps.q (v := .int .i64 (p1.len : Int)) rfl rfl (by decide) (q_len Try.underlying22 rfl (ls1 rfl)) ?_
        refine GoOps.q (v := .bool (decide (s14.2.2 < (p1.len : Int)))) rfl rfl (by decide) (q_lss rfl rfl) ?_
        refine GoOps.nil ?_
        rcases bor (decide (s14.2.2 < (p1.len : Int))) with hc18 | hc18
        · have h := h.1 hc18
          refine Go.condT (btT rfl hc18) ?_
          refine Go.skip ?_
          refine Go.seq ?_
          refine Go.block ?_
          refine Go.seq ?_
          refine Go.region rfl ?_
          refine GoOps.q (v := Sl.v p1) rfl rfl (by decide) (q_move e16_1) ?_
          refine GoOps.q (v := .int .i64 s14.2.2) rfl rfl (by decide) (q_move e16_9) ?_
          obtain ⟨a19, ha20, h⟩ := h
          refine GoOps.q (v := .pointer (some a19)) rfl rfl (by decide) (q_idx slice22 ha20 rfl rfl) ?_
          obtain ⟨x21, hx22, h⟩ := h
          refine GoOps.q (v := .int .i64 x21) rfl rfl (by decide) (q_load scalar3 rfl hx22) ?_
          refine GoOps.q (v := .int .i64 p0) rfl rfl (by decide) (q_move e16_0) ?_
          refine GoOps.q (v := .int .i64 s14.2.2) rfl rfl (by decide) (q_move e16_9) ?_
          refine GoOps.q (v := .int .i64 s14.2.1) rfl rfl (by decide) (q_move e16_8) ?_
          refine call_dst rfl (by decide) body8 (keelsonlaw24_op_s _ _ _ _ _ _ h) rfl ?_
          rintro _ H23 ⟨y24, rfl, h⟩
          refine op_dst rfl rfl (by decide) (do_new zero29 rfl fun a25 H26 hb27 => ?_) 
          have h := h a25 H26 hb27
          obtain ⟨q29b, q29o, q29c, q29e, hq29a, hq29b, hq29l, hq29v, h⟩ := h
          refine op_none rfl rfl (do_store (vs := [.int .i64 y24.1, .int .i64 y24.2.1, .int .i64 y24.2.2.1, .int .i64 y24.2.2.2.1, Sl.v y24.2.2.2.2]) size29 (pta rfl hq29a) rfl rfl rfl hq29v hq29b hq29l ?_) 
          refine GoOps.nil ?_
          refine Go.seq ?_
          refine Go.seq ?_
          refine Go.region rfl ?_
          refine GoOps.q (v := .pointer (some (a25.add 0))) rfl rfl (by decide) (q_fieldAddr foff29_0 rfl) ?_
          obtain ⟨x30, hx31, h⟩ := h
          refine GoOps.q (v := .int .i64 x30) rfl rfl (by decide) (q_load scalar3 rfl hx31) ?_
          refine GoOps.q (v := .bool (x30 == 3)) rfl rfl (by decide) (q_eql rfl rfl) ?_
          refine GoOps.nil ?_
          refine join_go 1 (fun ρ (s32 : Int) => ρ 0 = .int .i64 p0 ∧ ρ 1 = Sl.v p1 ∧ ρ 2 = .int .i64 p2 ∧ ρ 7 = Sl.v s14.1 ∧ ρ 8 = .int .i64 s32 ∧ ρ 9 = .int .i64 s14.2.2 ∧ ρ 10 = .pointer (some a25)) h ?_ ?_ <;> clear h
          · intro s32 H34 ρ h hE
            obtain ⟨e35_0, e35_1, e35_2, e35_7, e35_8, e35_9, e35_10⟩ := hE
            refine Go.region rfl ?_
            refine GoOps.q (v := Sl.v s14.1) rfl rfl (by decide) (q_move e35_7) ?_
            obtain ⟨x36, hx37, h⟩ := h
            refine GoOps.q (v := .agg ([.int .i64 x36.1, .int .i64 x36.2.1, .int .i64 x36.2.2.1, .int .i64 x36.2.2.2.1, Sl.v x36.2.2.2.2] : List Value).toArray) rfl rfl (by decide) (q_loadA aggr29 e35_10 hx37) ?_
            refine op_dst rfl rfl (by decide) (do_bs (ps := [(0, .agg ([.int .i64 x36.1, .int .i64 x36.2.1, .int .i64 x36.2.2.1, .int .i64 x36.2.2.2.1, Sl.v x36.2.2.2.2] : List Value).toArray)]) (zs := [.int .i64 0, .int .i64 0, .int .i64 0, .int .i64 0, .slice none 0 0]) (cs := [.int .i64 x36.1, .int .i64 x36.2.1, .int .i64 x36.2.2.1, .int .i64 x36.2.2.2.1, Sl.v x36.2.2.2.2]) slice36 zero29 rfl rfl (by decide) (by decide) rfl (fillS_cat (tot := 5) (css := [[.int .i64 x36.1, .int .i64 x36.2.1, .int .i64 x36.2.2.1, .int .i64 x36.2.2.2.1, Sl.v x36.2.2.2.2]]) (.cons rfl rfl rfl (.nil rfl)) rfl) fun r38 H39 hb40 => ?_) 
            have h := h r38 H39 hb40
            refine op_dst rfl rfl (by decide) (do_append (zs := [.int .i64 0, .int .i64 0, .int .i64 0, .int .i64 0, .slice none 0 0]) slice36 bytes29 (by decide) zero29 rfl rfl (by decide) rfl rfl Try.underlying36 rfl h fun r41 H42 h => ?_) 
            refine GoOps.q (v := Sl.v r41) rfl rfl (by decide) (q_assign rfl) ?_
            refine GoOps.nil ?_
            refine Go.inBlock ?_
            refine Go.region rfl ?_
            refine GoOps.q (v := .int .i64 s14.2.2) rfl rfl (by decide) (q_move e35_9) ?_
            refine GoOps.q (v := .int .i64 (IntKind.wrap .i64 (s14.2.2 + 1))) rfl rfl (by decide) (q_add rfl rfl) ?_
            refine GoOps.q (v := .int .i64 (IntKind.wrap .i64 (s14.2.2 + 1))) rfl rfl (by decide) (q_assign rfl) ?_
            refine GoOps.nil ?_
            exact hagain15 _ _ _ h ⟨e35_0, e35_1, e35_2, rfl, e35_8, rfl⟩
          · intro j33 hj33 h
            rcases bor (x30 == 3) with hc43 | hc43
            · have h := h.1 hc43
              refine Go.condT (btT rfl hc43) ?_
              refine Go.region rfl ?_
              refine GoOps.q (v := .int .i64 s14.2.1) rfl rfl (by decide) (q_move e16_8) ?_
              refine GoOps.q (v := .int .i64 (IntKind.wrap .i64 (s14.2.1 + 1))) rfl rfl (by decide) (q_add rfl rfl) ?_
              refine GoOps.q (v := .int .i64 (IntKind.wrap .i64 (s14.2.1 + 1))) rfl rfl (by decide) (q_assign rfl) ?_
              refine GoOps.nil ?_
              exact hj33 _ _ _ h ⟨e16_0, e16_1, e16_2, e16_7, rfl, e16_9, rfl⟩
            · have h := h.2 hc43
              refine Go.condF (btF rfl hc43) ?_
              refine Go.skip ?_
              exact hj33 _ _ _ h ⟨e16_0, e16_1, e16_2, e16_7, e16_8, e16_9, rfl⟩
        · have h := h.2 hc18
          refine Go.condF (btF rfl hc18) ?_
          refine Go.exit rfl ?_
          refine Go.seq ?_
          refine Go.region rfl ?_
          refine GoOps.q (v := .int .i64 p2) rfl rfl (by decide) (q_move e16_2) ?_
          refine GoOps.q (v := .int .i64 s14.2.1) rfl rfl (by decide) (q_move e16_8) ?_
          refine GoOps.q (v := .int .i64 (IntKind.wrap .i64 (s14.2.1 + 2))) rfl rfl (by decide) (q_add rfl rfl) ?_
          refine call_dst rfl (by decide) body25 (keelsonalike_Round_s _ _ _ _ h) rfl ?_
          rintro _ H44 ⟨y45, rfl, h⟩
          refine GoOps.q (v := .int .i64 y45) rfl rfl (by decide) (q_assign rfl) ?_
          refine GoOps.nil ?_
          refine Go.seq ?_
          refine Go.region rfl ?_
          refine GoOps.q (v := .int .i64 p0) rfl rfl (by decide) (q_move e16_0) ?_
          refine GoOps.q (v := .int .i64 y45) rfl rfl (by decide) (q_move rfl) ?_
          refine GoOps.q (v := Sl.v s14.1) rfl rfl (by decide) (q_move e16_7) ?_
          refine call_dst rfl (by decide) body26 (ideal_Fold_s _ _ _ _ _ h) rfl ?_
          rintro _ H46 ⟨y47, rfl, h⟩
          refine GoOps.q (v := Sl.v y47) rfl rfl (by decide) (q_assign rfl) ?_
          refine GoOps.nil ?_
          refine Go.seq ?_
          refine Go.region rfl ?_
          refine GoOps.q (v := .int .i64 p0) rfl rfl (by decide) (q_move e16_0) ?_
          refine call_dst rfl (by decide) body7 (ideal_New_s _ _ _ h) rfl ?_
          rintro _ H48 ⟨y49, rfl, h⟩
          refine GoOps.q (v := .pointer y49) rfl rfl (by decide) (q_assign rfl) ?_
          refine GoOps.nil ?_
          refine Go.seq ?_
          refine Go.seq ?_
          refine Go.region rfl ?_
          refine GoOps.q (v := .pointer y49) rfl rfl (by decide) (q_move rfl) ?_
          refine GoOps.q (v := .bool (Option.isNone y49)) rfl rfl (by decide) (q_eqlPn Try.underlying24 rfl rfl) ?_
          refine GoOps.nil ?_
          rcases bor (Option.isNone y49) with hc50 | hc50
          · have h := h.1 hc50
            refine Go.condT (btT rfl hc50) ?_
            refine Go.seq ?_
            refine Go.region rfl ?_
            refine GoOps.q (v := .bool false) rfl rfl (by decide) (q_assign rfl) ?_
            refine GoOps.nil ?_
            exact Go.ret ⟨.inl rfl, _, _, DOk.nil, (resOk1 Try.results5 rfl), ⟨_, rfl, h⟩⟩
          · have h := h.2 hc50
            refine Go.condF (btF rfl hc50) ?_
            refine Go.skip ?_
            refine Go.seq ?_
            refine Go.seq ?_
            refine Go.region rfl ?_
            refine GoOps.q (v := .int .i64 0) rfl rfl (by decide) (q_assign rfl) ?_
            refine GoOps.nil ?_
            refine Go.block ?_
            refine loop_go (fun ρ (s51 : Int) => ρ 7 = Sl.v s14.1 ∧ ρ 11 = .int .i64 y45 ∧ ρ 12 = Sl.v y47 ∧ ρ 13 = .pointer y49 ∧ ρ 14 = .int .i64 s51) h ⟨e16_7, rfl, rfl, rfl, rfl⟩ ?_
            clear h
            intro ρ s51 H54 again52 hE h hagain52
            obtain ⟨e53_7, e53_11, e53_12, e53_13, e53_14⟩ := hE
            refine Go.seq ?_
            refine Go.seq ?_
            refine Go.region rfl ?_
            refine GoOps.q (v := .int .i64 s51) rfl rfl (by decide) (q_move e53_14) ?_
            refine GoOps.q (v := Sl.v s14.1) rfl rfl (by decide) (q_move e53_7) ?_
            refine GoOps.q (v := .int .i64 (s14.1.len : Int)) rfl rfl (by decide) (q_len Try.underlying36 rfl (ls1 rfl)) ?_
            refine GoOps.q (v := .bool (decide (s51 < (s14.1.len : Int)))) rfl rfl (by decide) (q_lss rfl rfl) ?_
            refine GoOps.q (v := .bool (decide (s51 < (s14.1.len : Int)))) rfl rfl (by decide) (q_move rfl) ?_
            refine join_ops 5 (fun ρ (s56 : Bool) => ρ 7 = Sl.v s14.1 ∧ ρ 11 = .int .i64 y45 ∧ ρ 12 = Sl.v y47 ∧ ρ 13 = .pointer y49 ∧ ρ 14 = .int .i64 s51 ∧ ρ 75 = .bool s56) h ?_ ?_ <;> clear h
            · intro s56 H58 ρ h hE
              obtain ⟨e59_7, e59_11, e59_12, e59_13, e59_14, e59_75⟩ := hE
              refine GoOps.nil ?_
              rcases bor s56 with hc60 | hc60
              · have h := h.1 hc60
                refine Go.condT (btT e59_75 hc60) ?_
                refine Go.skip ?_
                refine Go.seq ?_
                refine Go.block ?_
                refine Go.seq ?_
                refine Go.region rfl ?_
                refine GoOps.q (v := .pointer y49) rfl rfl (by decide) (q_move e59_13) ?_
                refine GoOps.q (v := Sl.v s14.1) rfl rfl (by decide) (q_move e59_7) ?_
                refine GoOps.q (v := .int .i64 s51) rfl rfl (by decide) (q_move e59_14) ?_
                obtain ⟨a61, ha62, h⟩ := h
                refine GoOps.q (v := .pointer (some a61)) rfl rfl (by decide) (q_idx slice36 ha62 rfl rfl) ?_
                obtain ⟨x63, hx64, h⟩ := h
                refine GoOps.q (v := .agg ([.int .i64 x63.1, .int .i64 x63.2.1, .int .i64 x63.2.2.1, .int .i64 x63.2.2.2.1, Sl.v x63.2.2.2.2] : List Value).toArray) rfl rfl (by decide) (q_loadA aggr29 rfl hx64) ?_
                refine call_dst rfl (by decide) body10 (ideal_Ideal_Do_s _ _ _ _ h) rfl ?_
                rintro _ H65 ⟨y66, rfl, h⟩
                refine GoOps.q (v := .bool (!y66)) rfl rfl (by decide) (q_not rfl) ?_
                refine GoOps.nil ?_
                rcases bor (!y66) with hc67 | hc67
                · have h := h.1 hc67
                  refine Go.condT (btT rfl hc67) ?_
                  refine Go.seq ?_
                  refine Go.region rfl ?_
                  refine GoOps.q (v := .bool false) rfl rfl (by decide) (q_assign rfl) ?_
                  refine GoOps.nil ?_
                  exact Go.ret ⟨.inl rfl, _, _, DOk.nil, (resOk1 Try.results5 rfl), ⟨_, rfl, h⟩⟩
                · have h := h.2 hc67
                  refine Go.condF (btF rfl hc67) ?_
                  refine Go.skip ?_
                  refine Go.inBlock ?_
                  refine Go.region rfl ?_
                  refine GoOps.q (v := .int .i64 s51) rfl rfl (by decide) (q_move e59_14) ?_
                  refine GoOps.q (v := .int .i64 (IntKind.wrap .i64 (s51 + 1))) rfl rfl (by decide) (q_add rfl rfl) ?_
                  refine GoOps.q (v := .int .i64 (IntKind.wrap .i64 (s51 + 1))) rfl rfl (by decide) (q_assign rfl) ?_
                  refine GoOps.nil ?_
                  exact hagain52 _ _ _ h ⟨e59_7, e59_11, e59_12, e59_13, rfl⟩
              · have h := h.2 hc60
                refine Go.condF (btF e59_75 hc60) ?_
                refine Go.exit rfl ?_
                refine Go.seq ?_
                refine Go.region rfl ?_
                refine GoOps.q (v := .pointer y49) rfl rfl (by decide) (q_move e59_13) ?_
                refine call_dst rfl (by decide) body23 (keelsonlaw24_all_s _ _ _ h) rfl ?_
                rintro _ H68 ⟨y69, y70, rfl, h⟩
                refine GoOps.q (v := .tuple #[Sl.v y69, .bool y70]) rfl rfl (by decide) (q_move rfl) ?_
                refine GoOps.q (v := Sl.v y69) rfl rfl (by decide) (q_extract rfl rfl) ?_
                refine GoOps.q (v := .bool y70) rfl rfl (by decide) (q_extract rfl rfl) ?_
                refine GoOps.q (v := Sl.v y69) rfl rfl (by decide) (q_assign rfl) ?_
                refine GoOps.q (v := .bool y70) rfl rfl (by decide) (q_assign rfl) ?_
                refine GoOps.nil ?_
                refine Go.seq ?_
                refine Go.seq ?_
                refine Go.region rfl ?_
                refine GoOps.q (v := .bool y70) rfl rfl (by decide) (q_move rfl) ?_
                refine GoOps.q (v := .bool (!y70)) rfl rfl (by decide) (q_not rfl) ?_
                refine GoOps.q (v := .bool (!y70)) rfl rfl (by decide) (q_move rfl) ?_
                refine join_ops 5 (fun ρ (s72 : Bool) => ρ 12 = Sl.v y47 ∧ ρ 13 = .pointer y49 ∧ ρ 97 = .bool s72) h ?_ ?_ <;> clear h
                · intro s72 H74 ρ h hE
                  obtain ⟨e75_12, e75_13, e75_97⟩ := hE
                  refine GoOps.nil ?_
                  rcases bor s72 with hc76 | hc76
                  · have h := h.1 hc76
                    refine Go.condT (btT e75_97 hc76) ?_
                    refine Go.seq ?_
                    refine Go.region rfl ?_
                    refine GoOps.q (v := .bool false) rfl rfl (by decide) (q_assign rfl) ?_
                    refine GoOps.nil ?_
                    exact Go.ret ⟨.inl rfl, _, _, DOk.nil, (resOk1 Try.results5 rfl), ⟨_, rfl, h⟩⟩
                  · have h := h.2 hc76
                    refine Go.condF (btF e75_97 hc76) ?_
                    refine Go.skip ?_
                    refine Go.seq ?_
                    refine Go.region rfl ?_
                    refine GoOps.q (v := .pointer y49) rfl rfl (by decide) (q_move e75_13) ?_
                    refine call_dst rfl (by decide) body27 (keelsonalike_Fill_s _ _ _ h) rfl ?_
                    rintro _ H77 ⟨y78, rfl, h⟩
                    refine GoOps.q (v := .agg ([.int .i64 1, .int .i64 0, .int .i64 0, .int .i64 0, Sl.v y78] : List Value).toArray) rfl rfl (by decide) (q_build (ps := [(0, .int .i64 1), (1, .int .i64 0), (4, Sl.v y78)]) (cs := [.int .i64 1, .int .i64 0, .int .i64 0, .int .i64 0, Sl.v y78]) places29 zero29 rfl rfl rfl) ?_
                    refine call_dst rfl (by decide) body10 (ideal_Ideal_Do_s _ _ _ _ h) rfl ?_
                    rintro _ H79 ⟨y80, rfl, h⟩
                    refine GoOps.nil ?_
                    refine Go.seq ?_
                    refine Go.region rfl ?_
                    refine GoOps.q (v := .pointer y49) rfl rfl (by decide) (q_move e75_13) ?_
                    refine call_dst rfl (by decide) body23 (keelsonlaw24_all_s _ _ _ h) rfl ?_
                    rintro _ H81 ⟨y82, y83, rfl, h⟩
                    refine GoOps.q (v := .tuple #[Sl.v y82, .bool y83]) rfl rfl (by decide) (q_move rfl) ?_
                    refine GoOps.q (v := Sl.v y82) rfl rfl (by decide) (q_extract rfl rfl) ?_
                    refine GoOps.q (v := .bool y83) rfl rfl (by decide) (q_extract rfl rfl) ?_
                    refine GoOps.q (v := Sl.v y82) rfl rfl (by decide) (q_assign rfl) ?_
                    refine GoOps.q (v := .bool y83) rfl rfl (by decide) (q_assign rfl) ?_
                    refine GoOps.nil ?_
                    refine Go.seq ?_
                    refine Go.region rfl ?_
                    refine GoOps.q (v := .bool y83) rfl rfl (by decide) (q_move rfl) ?_
                    refine GoOps.q (v := .bool y83) rfl rfl (by decide) (q_move rfl) ?_
                    refine join_ops 4 (fun ρ (s85 : Bool) => ρ 112 = .bool s85) h ?_ ?_ <;> clear h
                    · intro s85 H87 ρ h hE
                      have e88_112 := hE
                      refine GoOps.q (v := .bool s85) rfl rfl (by decide) (q_move e88_112) ?_
                      refine join_ops 2 (fun ρ (s90 : Bool) => ρ 115 = .bool s90) h ?_ ?_ <;> clear h
                      · intro s90 H92 ρ h hE
                        have e93_115 := hE
                        refine GoOps.q (v := .bool s90) rfl rfl (by decide) (q_assign e93_115) ?_
                        refine GoOps.nil ?_
                        exact Go.ret ⟨.inl rfl, _, _, DOk.nil, (resOk1 Try.results5 rfl), ⟨_, rfl, h⟩⟩
                      · intro j91 hj91 h
                        rcases bor s85 with hc89 | hc89
                        · have h := h.1 hc89
                          refine call_dst (want_yes rfl rfl rfl hc89) (by decide) body6 (keelsonlaw24_awake_s _ _ h) rfl ?_
                          rintro _ H94 ⟨y95, rfl, h⟩
                          refine GoOps.q (v := .bool y95) rfl rfl (by decide) (q_pickT (btT rfl hc89) rfl) ?_
                          exact hj91 y95 _ _ h (by exact rfl)
                        · have h := h.2 hc89
                          refine no_dst (want_no rfl rfl rfl hc89) rfl (by decide) ?_
                          refine GoOps.q (v := .bool false) rfl rfl (by decide) (q_pickF (btF rfl hc89) rfl) ?_
                          exact hj91 false _ _ h (by exact rfl)
                    · intro j86 hj86 h
                      rcases bor y83 with hc84 | hc84
                      · have h := h.1 hc84
                        refine GoOps.q (v := Sl.v y82) (want_yes rfl rfl rfl hc84) rfl (by decide) (q_move rfl) ?_
                        refine GoOps.q (v := Sl.v y47) (want_yes rfl rfl rfl hc84) rfl (by decide) (q_move e75_12) ?_
                        refine call_dst (want_yes rfl rfl rfl hc84) (by decide) body24 (keelsonalike_Blocks_s _ _ _ _ h) rfl ?_
                        rintro _ H96 ⟨y97, rfl, h⟩
                        refine GoOps.q (v := .bool y97) rfl rfl (by decide) (q_pickT (btT rfl hc84) rfl) ?_
                        exact hj86 y97 _ _ h (by exact rfl)
                      · have h := h.2 hc84
                        refine no_dst (want_no rfl rfl rfl hc84) rfl (by decide) ?_
                        refine no_dst (want_no rfl rfl rfl hc84) rfl (by decide) ?_
                        refine no_dst (want_no rfl rfl rfl hc84) rfl (by decide) ?_
                        refine GoOps.q (v := .bool false) rfl rfl (by decide) (q_pickF (btF rfl hc84) rfl) ?_
                        exact hj86 false _ _ h (by exact rfl)
                · intro j73 hj73 h
                  rcases bor (!y70) with hc71 | hc71
                  · have h := h.1 hc71
                    refine no_dst (want_no rfl rfl rfl hc71) rfl (by decide) ?_
                    refine no_dst (want_no rfl rfl rfl hc71) rfl (by decide) ?_
                    refine no_dst (want_no rfl rfl rfl hc71) rfl (by decide) ?_
                    refine no_dst (want_no rfl rfl rfl hc71) rfl (by decide) ?_
                    refine GoOps.q (v := .bool true) rfl rfl (by decide) (q_pickT (btT rfl hc71) rfl) ?_
                    exact hj73 true _ _ h (by exact ⟨e59_12, e59_13, rfl⟩)
                  · have h := h.2 hc71
                    refine GoOps.q (v := Sl.v y47) (want_yes rfl rfl rfl hc71) rfl (by decide) (q_move e59_12) ?_
                    refine GoOps.q (v := Sl.v y69) (want_yes rfl rfl rfl hc71) rfl (by decide) (q_move rfl) ?_
                    refine call_dst (want_yes rfl rfl rfl hc71) (by decide) body24 (keelsonalike_Blocks_s _ _ _ _ h) rfl ?_
                    rintro _ H98 ⟨y99, rfl, h⟩
                    refine GoOps.q (v := .bool (!y99)) (want_yes rfl rfl rfl hc71) rfl (by decide) (q_not rfl) ?_
                    refine GoOps.q (v := .bool (!y99)) rfl rfl (by decide) (q_pickF (btF rfl hc71) rfl) ?_
                    exact hj73 (!y99) _ _ h (by exact ⟨e59_12, e59_13, rfl⟩)
            · intro j57 hj57 h
              rcases bor (decide (s51 < (s14.1.len : Int))) with hc55 | hc55
              · have h := h.1 hc55
                refine GoOps.q (v := .pointer y49) (want_yes rfl rfl rfl hc55) rfl (by decide) (q_move e53_13) ?_
                refine call_dst (want_yes rfl rfl rfl hc55) (by decide) body9 (ideal_Ideal_Epoch_s _ _ _ h) rfl ?_
                rintro _ H100 ⟨y101, rfl, h⟩
                refine GoOps.q (v := .int .i64 y45) (want_yes rfl rfl rfl hc55) rfl (by decide) (q_move e53_11) ?_
                refine GoOps.q (v := .bool (decide (y101 < y45))) (want_yes rfl rfl rfl hc55) rfl (by decide) (q_lss rfl rfl) ?_
                refine GoOps.q (v := .bool (decide (y101 < y45))) rfl rfl (by decide) (q_pickT (btT rfl hc55) rfl) ?_
                exact hj57 (decide (y101 < y45)) _ _ h (by exact ⟨e53_7, e53_11, e53_12, e53_13, e53_14, rfl⟩)
              · have h := h.2 hc55
                refine no_dst (want_no rfl rfl rfl hc55) rfl (by decide) ?_
                refine no_dst (want_no rfl rfl rfl hc55) rfl (by decide) ?_
                refine no_dst (want_no rfl rfl rfl hc55) rfl (by decide) ?_
                refine no_dst (want_no rfl rfl rfl hc55) rfl (by decide) ?_
                refine GoOps.q (v := .bool false) rfl rfl (by decide) (q_pickF (btF rfl hc55) rfl) ?_
                exact hj57 false _ _ h (by exact ⟨e53_7, e53_11, e53_12, e53_13, e53_14, rfl⟩)
    · intro j8 hj8 h
      rcases bor s2 with hc6 | hc6
      · have h := h.1 hc6
        refine no_dst (want_no rfl rfl rfl hc6) rfl (by decide) ?_
        refine no_dst (want_no rfl rfl rfl hc6) rfl (by decide) ?_
        refine no_dst (want_no rfl rfl rfl hc6) rfl (by decide) ?_
        refine GoOps.q (v := .bool true) rfl rfl (by decide) (q_pickT (btT rfl hc6) rfl) ?_
        exact hj8 true _ _ h (by exact ⟨e5_0, e5_1, e5_2, rfl⟩)
      · have h := h.2 hc6
        refine GoOps.q (v := Sl.v p1) (want_yes rfl rfl rfl hc6) rfl (by decide) (q_move e5_1) ?_
        refine GoOps.q (v := .int .i64 (p1.len : Int)) (want_yes rfl rfl rfl hc6) rfl (by decide) (q_len Try.underlying22 rfl (ls1 rfl)) ?_
        refine GoOps.q (v := .bool (decide (60 < (p1.len : Int)))) (want_yes rfl rfl rfl hc6) rfl (by decide) (q_gtr rfl rfl) ?_
        refine GoOps.q (v := .bool (decide (60 < (p1.len : Int)))) rfl rfl (by decide) (q_pickF (btF rfl hc6) rfl) ?_
        exact hj8 (decide (60 < (p1.len : Int))) _ _ h (by exact ⟨e5_0, e5_1, e5_2, rfl⟩)
  · intro j3 hj3 h
    rcases bor (decide (p0 < 1)) with hc1 | hc1
    · have h := h.1 hc1
      refine no_dst (want_no rfl rfl rfl hc1) rfl (by decide) ?_
      refine no_dst (want_no rfl rfl rfl hc1) rfl (by decide) ?_
      refine GoOps.q (v := .bool true) rfl rfl (by decide) (q_pickT (btT rfl hc1) rfl) ?_
      exact hj3 true _ _ h (by exact ⟨rfl, rfl, rfl, rfl⟩)
    · have h := h.2 hc1
      refine GoOps.q (v := .int .i64 p0) (want_yes rfl rfl rfl hc1) rfl (by decide) (q_move rfl) ?_
      refine GoOps.q (v := .bool (decide (64 < p0))) (want_yes rfl rfl rfl hc1) rfl (by decide) (q_gtr rfl rfl) ?_
      refine GoOps.q (v := .bool (decide (64 < p0))) rfl rfl (by decide) (q_pickF (btF rfl hc1) rfl) ?_
      exact hj3 (decide (64 < p0)) _ _ h (by exact ⟨rfl, rfl, rfl, rfl⟩)


end Go.Proofs.Ytfjpapddfdhhlaa

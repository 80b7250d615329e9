import Derived.Test.YtinjkdoikljakaaFnp1
set_option linter.unusedVariables false
set_option linter.unusedSimpArgs false
namespace Go.Proofs.Ytinjkdoikljakaa
open Go Go.Kx Go.Proofs
/-- keelson.keelsonref1.Mod -/
def keelsonref1_Mod (p0 : Int) (p1 : Int) (H : PH) (Q : Int → PH → Prop) : Prop :=
  mNe p1 <|
  mJoin (fun (s2 : Int) (H4 : PH) =>
  Q s2 H4)
  fun j3 =>
  mIf (decide ((Int.tmod p0 p1) < 0))
  (j3 (IntKind.wrap .i64 ((Int.tmod p0 p1) + p1)) H)
  (j3 (Int.tmod p0 p1) H)

set_option maxRecDepth 20000 in
set_option maxHeartbeats 1000000 in
theorem keelsonref1_Mod_s (p0 : Int) (p1 : Int) (H : PH) (Q : Int → PH → Prop) (h : keelsonref1_Mod p0 p1 H Q) :
    CallsH Try.prog 34 #[.int .i64 p0, .int .i64 p1] H (fun v H' => ∃ (r0 : Int), v = .int .i64 r0 ∧ Q r0 H') := by
  unfold keelsonref1_Mod at h
  refine callsH_of_go Try.func34 rfl Try.ntmps34 (Nat.le_of_ble_eq_true rfl) ?_
  refine Go.seq ?_
  refine Go.region rfl ?_
  refine GoOps.q (v := .int .i64 0) rfl rfl (by decide) (q_assign rfl) ?_
  refine GoOps.nil ?_
  refine Go.seq ?_
  refine Go.region rfl ?_
  refine GoOps.q (v := .int .i64 p0) rfl rfl (by decide) (q_move rfl) ?_
  refine GoOps.q (v := .int .i64 p1) rfl rfl (by decide) (q_move rfl) ?_
  obtain ⟨hn1, h⟩ := h
  refine GoOps.q (v := .int .i64 (Int.tmod p0 p1)) rfl rfl (by decide) (q_rem hn1 rfl rfl) ?_
  refine GoOps.q (v := .int .i64 (Int.tmod p0 p1)) rfl rfl (by decide) (q_assign rfl) ?_
  refine GoOps.nil ?_
  refine Go.seq ?_
  refine Go.seq ?_
  refine Go.region rfl ?_
  refine GoOps.q (v := .int .i64 (Int.tmod p0 p1)) rfl rfl (by decide) (q_move rfl) ?_
  refine GoOps.q (v := .bool (decide ((Int.tmod p0 p1) < 0))) rfl rfl (by decide) (q_lss rfl rfl) ?_
  refine GoOps.nil ?_
  refine join_go 1 (fun ρ (s2 : Int) => ρ 5 = .int .i64 s2) h ?_ ?_ <;> clear h
  · intro s2 H4 ρ h hE
    have e5_5 := hE
    refine Go.seq ?_
    refine Go.region rfl ?_
    refine GoOps.q (v := .int .i64 s2) rfl rfl (by decide) (q_move e5_5) ?_
    refine GoOps.q (v := .int .i64 s2) rfl rfl (by decide) (q_assign rfl) ?_
    refine GoOps.nil ?_
    exact Go.ret ⟨.inl rfl, _, _, DOk.nil, (resOk1 Try.results34 rfl), ⟨_, rfl, h⟩⟩
  · intro j3 hj3 h
    rcases bor (decide ((Int.tmod p0 p1) < 0)) with hc6 | hc6
    · have h := h.1 hc6
      refine Go.condT (btT rfl hc6) ?_
      refine Go.region rfl ?_
      refine GoOps.q (v := .int .i64 (Int.tmod p0 p1)) rfl rfl (by decide) (q_move rfl) ?_
      refine GoOps.q (v := .int .i64 p1) rfl rfl (by decide) (q_move rfl) ?_
      refine GoOps.q (v := .int .i64 (IntKind.wrap .i64 ((Int.tmod p0 p1) + p1))) rfl rfl (by decide) (q_add rfl rfl) ?_
      refine GoOps.q (v := .int .i64 (IntKind.wrap .i64 ((Int.tmod p0 p1) + p1))) rfl rfl (by decide) (q_assign rfl) ?_
      refine GoOps.nil ?_
      exact hj3 _ _ _ h rfl
    · have h := h.2 hc6
      refine Go.condF (btF rfl hc6) ?_
      refine Go.skip ?_
      exact hj3 _ _ _ h rfl

/-- keelson.keelsonalike.Round -/
def keelsonalike_Round (p0 : Int) (p1 : Int) (H : PH) (Q : Int → PH → Prop) : Prop :=
  keelsonref1_Mod p0 p1 H fun y2 H1 =>
  Q y2 H1

set_option maxRecDepth 20000 in
set_option maxHeartbeats 1000000 in
theorem keelsonalike_Round_s (p0 : Int) (p1 : Int) (H : PH) (Q : Int → PH → Prop) (h : keelsonalike_Round p0 p1 H Q) :
    CallsH Try.prog 11 #[.int .i64 p0, .int .i64 p1] H (fun v H' => ∃ (r0 : Int), v = .int .i64 r0 ∧ Q r0 H') := by
  unfold keelsonalike_Round at h
  refine callsH_of_go Try.func11 rfl Try.ntmps11 (Nat.le_of_ble_eq_true rfl) ?_
  refine Go.seq ?_
  refine Go.region rfl ?_
  refine GoOps.q (v := .int .i64 0) rfl rfl (by decide) (q_assign rfl) ?_
  refine GoOps.nil ?_
  refine Go.seq ?_
  refine Go.region rfl ?_
  refine GoOps.q (v := .int .i64 p0) rfl rfl (by decide) (q_move rfl) ?_
  refine GoOps.q (v := .int .i64 p1) rfl rfl (by decide) (q_move rfl) ?_
  refine call_dst rfl (by decide) body34 (keelsonref1_Mod_s _ _ _ _ h) rfl ?_
  rintro _ H1 ⟨y2, rfl, h⟩
  refine GoOps.q (v := .int .i64 y2) rfl rfl (by decide) (q_assign rfl) ?_
  refine GoOps.nil ?_
  exact Go.ret ⟨.inl rfl, _, _, DOk.nil, (resOk1 Try.results11 rfl), ⟨_, rfl, h⟩⟩

/-- keelson.keelsonlaw19.VictimRises -/
def keelsonlaw19_VictimRises (p0 : Int) (p1 : Int) (p2 : Int) (p3 : Int) (p4 : Int) (H : PH) (Q : Bool → PH → Prop) : Prop :=
  keelsonalike_Round p2 1000 H fun y2 H1 =>
  keelsonalike_Round p0 (IntKind.wrap .i64 ((IntKind.wrap .i64 (1 + y2)) + 1)) H1 fun y4 H3 =>
  keelsonalike_Round p1 1073741824 H3 fun y6 H5 =>
  keelsonalike_Round p3 (IntKind.wrap .i64 (y4 + 1)) H5 fun y8 H7 =>
  keelsonalike_Round p4 1048576 H7 fun y10 H9 =>
  victim_Score y4 y6 (IntKind.wrap .i64 (1 + y2)) H9 fun y12 H11 =>
  mJoin (fun (s14 : Bool) (H16 : PH) =>
  mJoin (fun (s19 : Bool) (H21 : PH) =>
  mJoin (fun (s24 : Bool) (H26 : PH) =>
  mJoin (fun (s29 : Bool) (H31 : PH) =>
  mJoin (fun (s34 : Bool) (H36 : PH) =>
  mJoin (fun (s39 : Bool) (H41 : PH) =>
  Q s39 H41)
  fun j40 =>
  mIf s34
  (keelsonlaw19_awake H36 fun y44 H43 =>
  j40 y44 H43)
  (j40 false H36))
  fun j35 =>
  mIf s29
  (victim_Score 0 y6 (IntKind.wrap .i64 (1 + y2)) H31 fun y46 H45 =>
  j35 (y46 == y6) H45)
  (j35 false H31))
  fun j30 =>
  mIf s24
  (victim_Score y4 0 (IntKind.wrap .i64 (1 + y2)) H26 fun y48 H47 =>
  j30 (y48 == 0) H47)
  (j30 false H26))
  fun j25 =>
  mIf s19
  (victim_Score (IntKind.wrap .i64 (1 + y2)) y6 (IntKind.wrap .i64 (1 + y2)) H21 fun y50 H49 =>
  j25 (y50 == 0) H49)
  (j25 false H21))
  fun j20 =>
  mIf s14
  (victim_Score y4 (IntKind.wrap .i64 (y6 + y10)) (IntKind.wrap .i64 (1 + y2)) H16 fun y52 H51 =>
  j20 (decide (y12 ≤ y52)) H51)
  (j20 false H16))
  fun j15 =>
  mIf (decide (0 ≤ y12))
  (victim_Score y8 y6 (IntKind.wrap .i64 (1 + y2)) H11 fun y54 H53 =>
  j15 (decide (y12 ≤ y54)) H53)
  (j15 false H11)

set_option maxRecDepth 20000 in
set_option maxHeartbeats 1000000 in
theorem keelsonlaw19_VictimRises_s (p0 : Int) (p1 : Int) (p2 : Int) (p3 : Int) (p4 : Int) (H : PH) (Q : Bool → PH → Prop) (h : keelsonlaw19_VictimRises p0 p1 p2 p3 p4 H Q) :
    CallsH Try.prog 4 #[.int .i64 p0, .int .i64 p1, .int .i64 p2, .int .i64 p3, .int .i64 p4] H (fun v H' => ∃ (r0 : Bool), v = .bool r0 ∧ Q r0 H') := by
  unfold keelsonlaw19_VictimRises at h
  refine callsH_of_go Try.func4 rfl Try.ntmps4 (Nat.le_of_ble_eq_true rfl) ?_
  refine Go.seq ?_
  refine Go.region rfl ?_
  refine GoOps.q (v := .bool false) rfl rfl (by decide) (q_assign rfl) ?_
  refine GoOps.nil ?_
  refine Go.seq ?_
  refine Go.region rfl ?_
  refine GoOps.q (v := .int .i64 p2) rfl rfl (by decide) (q_move rfl) ?_
  refine call_dst rfl (by decide) body11 (keelsonalike_Round_s _ _ _ _ h) rfl ?_
  rintro _ H1 ⟨y2, rfl, h⟩
  refine GoOps.q (v := .int .i64 (IntKind.wrap .i64 (1 + y2))) rfl rfl (by decide) (q_add rfl rfl) ?_
  refine GoOps.q (v := .int .i64 (IntKind.wrap .i64 (1 + y2))) rfl rfl (by decide) (q_assign rfl) ?_
  refine GoOps.nil ?_
  refine Go.seq ?_
  refine Go.region rfl ?_
  refine GoOps.q (v := .int .i64 p0) rfl rfl (by decide) (q_move rfl) ?_
  refine GoOps.q (v := .int .i64 (IntKind.wrap .i64 (1 + y2))) rfl rfl (by decide) (q_move rfl) ?_
  refine GoOps.q (v := .int .i64 (IntKind.wrap .i64 ((IntKind.wrap .i64 (1 + y2)) + 1))) rfl rfl (by decide) (q_add rfl rfl) ?_
  refine call_dst rfl (by decide) body11 (keelsonalike_Round_s _ _ _ _ h) rfl ?_
  rintro _ H3 ⟨y4, rfl, h⟩
  refine GoOps.q (v := .int .i64 p1) rfl rfl (by decide) (q_move rfl) ?_
  refine call_dst rfl (by decide) body11 (keelsonalike_Round_s _ _ _ _ h) rfl ?_
  rintro _ H5 ⟨y6, rfl, h⟩
  refine GoOps.q (v := .int .i64 y4) rfl rfl (by decide) (q_assign rfl) ?_
  refine GoOps.q (v := .int .i64 y6) rfl rfl (by decide) (q_assign rfl) ?_
  refine GoOps.nil ?_
  refine Go.seq ?_
  refine Go.region rfl ?_
  refine GoOps.q (v := .int .i64 p3) rfl rfl (by decide) (q_move rfl) ?_
  refine GoOps.q (v := .int .i64 y4) rfl rfl (by decide) (q_move rfl) ?_
  refine GoOps.q (v := .int .i64 (IntKind.wrap .i64 (y4 + 1))) rfl rfl (by decide) (q_add rfl rfl) ?_
  refine call_dst rfl (by decide) body11 (keelsonalike_Round_s _ _ _ _ h) rfl ?_
  rintro _ H7 ⟨y8, rfl, h⟩
  refine GoOps.q (v := .int .i64 y6) rfl rfl (by decide) (q_move rfl) ?_
  refine GoOps.q (v := .int .i64 p4) rfl rfl (by decide) (q_move rfl) ?_
  refine call_dst rfl (by decide) body11 (keelsonalike_Round_s _ _ _ _ h) rfl ?_
  rintro _ H9 ⟨y10, rfl, h⟩
  refine GoOps.q (v := .int .i64 (IntKind.wrap .i64 (y6 + y10))) rfl rfl (by decide) (q_add rfl rfl) ?_
  refine GoOps.q (v := .int .i64 y8) rfl rfl (by decide) (q_assign rfl) ?_
  refine GoOps.q (v := .int .i64 (IntKind.wrap .i64 (y6 + y10))) rfl rfl (by decide) (q_assign rfl) ?_
  refine GoOps.nil ?_
  refine Go.seq ?_
  refine Go.region rfl ?_
  refine GoOps.q (v := .int .i64 y4) rfl rfl (by decide) (q_move rfl) ?_
  refine GoOps.q (v := .int .i64 y6) rfl rfl (by decide) (q_move rfl) ?_
  refine GoOps.q (v := .int .i64 (IntKind.wrap .i64 (1 + y2))) rfl rfl (by decide) (q_move rfl) ?_
  refine call_dst rfl (by decide) body8 (victim_Score_s _ _ _ _ _ h) rfl ?_
  rintro _ H11 ⟨y12, rfl, h⟩
  refine GoOps.q (v := .int .i64 y12) rfl rfl (by decide) (q_assign rfl) ?_
  refine GoOps.nil ?_
  refine Go.seq ?_
  refine Go.region rfl ?_
  refine GoOps.q (v := .int .i64 y12) rfl rfl (by decide) (q_move rfl) ?_
  refine GoOps.q (v := .bool (decide (0 ≤ y12))) rfl rfl (by decide) (q_geq rfl rfl) ?_
  refine GoOps.q (v := .bool (decide (0 ≤ y12))) rfl rfl (by decide) (q_move rfl) ?_
  refine join_ops 7 (fun ρ (s14 : Bool) => ρ 11 = .int .i64 (IntKind.wrap .i64 (1 + y2)) ∧ ρ 12 = .int .i64 y4 ∧ ρ 13 = .int .i64 y6 ∧ ρ 15 = .int .i64 (IntKind.wrap .i64 (y6 + y10)) ∧ ρ 16 = .int .i64 y12 ∧ ρ 47 = .bool s14) h ?_ ?_ <;> clear h
  · intro s14 H16 ρ h hE
    obtain ⟨e17_11, e17_12, e17_13, e17_15, e17_16, e17_47⟩ := hE
    refine GoOps.q (v := .bool s14) rfl rfl (by decide) (q_move e17_47) ?_
    refine join_ops 7 (fun ρ (s19 : Bool) => ρ 11 = .int .i64 (IntKind.wrap .i64 (1 + y2)) ∧ ρ 12 = .int .i64 y4 ∧ ρ 13 = .int .i64 y6 ∧ ρ 55 = .bool s19) h ?_ ?_ <;> clear h
    · intro s19 H21 ρ h hE
      obtain ⟨e22_11, e22_12, e22_13, e22_55⟩ := hE
      refine GoOps.q (v := .bool s19) rfl rfl (by decide) (q_move e22_55) ?_
      refine join_ops 6 (fun ρ (s24 : Bool) => ρ 11 = .int .i64 (IntKind.wrap .i64 (1 + y2)) ∧ ρ 12 = .int .i64 y4 ∧ ρ 13 = .int .i64 y6 ∧ ρ 62 = .bool s24) h ?_ ?_ <;> clear h
      · intro s24 H26 ρ h hE
        obtain ⟨e27_11, e27_12, e27_13, e27_62⟩ := hE
        refine GoOps.q (v := .bool s24) rfl rfl (by decide) (q_move e27_62) ?_
        refine join_ops 5 (fun ρ (s29 : Bool) => ρ 11 = .int .i64 (IntKind.wrap .i64 (1 + y2)) ∧ ρ 13 = .int .i64 y6 ∧ ρ 68 = .bool s29) h ?_ ?_ <;> clear h
        · intro s29 H31 ρ h hE
          obtain ⟨e32_11, e32_13, e32_68⟩ := hE
          refine GoOps.q (v := .bool s29) rfl rfl (by decide) (q_move e32_68) ?_
          refine join_ops 6 (fun ρ (s34 : Bool) => ρ 75 = .bool s34) h ?_ ?_ <;> clear h
          · intro s34 H36 ρ h hE
            have e37_75 := hE
            refine GoOps.q (v := .bool s34) rfl rfl (by decide) (q_move e37_75) ?_
            refine join_ops 2 (fun ρ (s39 : Bool) => ρ 78 = .bool s39) h ?_ ?_ <;> clear h
            · intro s39 H41 ρ h hE
              have e42_78 := hE
              refine GoOps.q (v := .bool s39) rfl rfl (by decide) (q_assign e42_78) ?_
              refine GoOps.nil ?_
              exact Go.ret ⟨.inl rfl, _, _, DOk.nil, (resOk1 Try.results4 rfl), ⟨_, rfl, h⟩⟩
            · intro j40 hj40 h
              rcases bor s34 with hc38 | hc38
              · have h := h.1 hc38
                refine call_dst (want_yes rfl rfl rfl hc38) (by decide) body10 (keelsonlaw19_awake_s _ _ h) rfl ?_
                rintro _ H43 ⟨y44, rfl, h⟩
                refine GoOps.q (v := .bool y44) rfl rfl (by decide) (q_pickT (btT rfl hc38) rfl) ?_
                exact hj40 y44 _ _ h (by exact rfl)
              · have h := h.2 hc38
                refine no_dst (want_no rfl rfl rfl hc38) rfl (by decide) ?_
                refine GoOps.q (v := .bool false) rfl rfl (by decide) (q_pickF (btF rfl hc38) rfl) ?_
                exact hj40 false _ _ h (by exact rfl)
          · intro j35 hj35 h
            rcases bor s29 with hc33 | hc33
            · have h := h.1 hc33
              refine GoOps.q (v := .int .i64 y6) (want_yes rfl rfl rfl hc33) rfl (by decide) (q_move e32_13) ?_
              refine GoOps.q (v := .int .i64 (IntKind.wrap .i64 (1 + y2))) (want_yes rfl rfl rfl hc33) rfl (by decide) (q_move e32_11) ?_
              refine call_dst (want_yes rfl rfl rfl hc33) (by decide) body8 (victim_Score_s _ _ _ _ _ h) rfl ?_
              rintro _ H45 ⟨y46, rfl, h⟩
              refine GoOps.q (v := .int .i64 y6) (want_yes rfl rfl rfl hc33) rfl (by decide) (q_move e32_13) ?_
              refine GoOps.q (v := .bool (y46 == y6)) (want_yes rfl rfl rfl hc33) rfl (by decide) (q_eql rfl rfl) ?_
              refine GoOps.q (v := .bool (y46 == y6)) rfl rfl (by decide) (q_pickT (btT rfl hc33) rfl) ?_
              exact hj35 (y46 == y6) _ _ h (by exact rfl)
            · have h := h.2 hc33
              refine no_dst (want_no rfl rfl rfl hc33) rfl (by decide) ?_
              refine no_dst (want_no rfl rfl rfl hc33) rfl (by decide) ?_
              refine no_dst (want_no rfl rfl rfl hc33) rfl (by decide) ?_
              refine no_dst (want_no rfl rfl rfl hc33) rfl (by decide) ?_
              refine no_dst (want_no rfl rfl rfl hc33) rfl (by decide) ?_
              refine GoOps.q (v := .bool false) rfl rfl (by decide) (q_pickF (btF rfl hc33) rfl) ?_
              exact hj35 false _ _ h (by exact rfl)
        · intro j30 hj30 h
          rcases bor s24 with hc28 | hc28
          · have h := h.1 hc28
            refine GoOps.q (v := .int .i64 y4) (want_yes rfl rfl rfl hc28) rfl (by decide) (q_move e27_12) ?_
            refine GoOps.q (v := .int .i64 (IntKind.wrap .i64 (1 + y2))) (want_yes rfl rfl rfl hc28) rfl (by decide) (q_move e27_11) ?_
            refine call_dst (want_yes rfl rfl rfl hc28) (by decide) body8 (victim_Score_s _ _ _ _ _ h) rfl ?_
            rintro _ H47 ⟨y48, rfl, h⟩
            refine GoOps.q (v := .bool (y48 == 0)) (want_yes rfl rfl rfl hc28) rfl (by decide) (q_eql rfl rfl) ?_
            refine GoOps.q (v := .bool (y48 == 0)) rfl rfl (by decide) (q_pickT (btT rfl hc28) rfl) ?_
            exact hj30 (y48 == 0) _ _ h (by exact ⟨e27_11, e27_13, rfl⟩)
          · have h := h.2 hc28
            refine no_dst (want_no rfl rfl rfl hc28) rfl (by decide) ?_
            refine no_dst (want_no rfl rfl rfl hc28) rfl (by decide) ?_
            refine no_dst (want_no rfl rfl rfl hc28) rfl (by decide) ?_
            refine no_dst (want_no rfl rfl rfl hc28) rfl (by decide) ?_
            refine GoOps.q (v := .bool false) rfl rfl (by decide) (q_pickF (btF rfl hc28) rfl) ?_
            exact hj30 false _ _ h (by exact ⟨e27_11, e27_13, rfl⟩)
      · intro j25 hj25 h
        rcases bor s19 with hc23 | hc23
        · have h := h.1 hc23
          refine GoOps.q (v := .int .i64 (IntKind.wrap .i64 (1 + y2))) (want_yes rfl rfl rfl hc23) rfl (by decide) (q_move e22_11) ?_
          refine GoOps.q (v := .int .i64 y6) (want_yes rfl rfl rfl hc23) rfl (by decide) (q_move e22_13) ?_
          refine GoOps.q (v := .int .i64 (IntKind.wrap .i64 (1 + y2))) (want_yes rfl rfl rfl hc23) rfl (by decide) (q_move e22_11) ?_
          refine call_dst (want_yes rfl rfl rfl hc23) (by decide) body8 (victim_Score_s _ _ _ _ _ h) rfl ?_
          rintro _ H49 ⟨y50, rfl, h⟩
          refine GoOps.q (v := .bool (y50 == 0)) (want_yes rfl rfl rfl hc23) rfl (by decide) (q_eql rfl rfl) ?_
          refine GoOps.q (v := .bool (y50 == 0)) rfl rfl (by decide) (q_pickT (btT rfl hc23) rfl) ?_
          exact hj25 (y50 == 0) _ _ h (by exact ⟨e22_11, e22_12, e22_13, rfl⟩)
        · have h := h.2 hc23
          refine no_dst (want_no rfl rfl rfl hc23) rfl (by decide) ?_
          refine no_dst (want_no rfl rfl rfl hc23) rfl (by decide) ?_
          refine no_dst (want_no rfl rfl rfl hc23) rfl (by decide) ?_
          refine no_dst (want_no rfl rfl rfl hc23) rfl (by decide) ?_
          refine no_dst (want_no rfl rfl rfl hc23) rfl (by decide) ?_
          refine GoOps.q (v := .bool false) rfl rfl (by decide) (q_pickF (btF rfl hc23) rfl) ?_
          exact hj25 false _ _ h (by exact ⟨e22_11, e22_12, e22_13, rfl⟩)
    · intro j20 hj20 h
      rcases bor s14 with hc18 | hc18
      · have h := h.1 hc18
        refine GoOps.q (v := .int .i64 y4) (want_yes rfl rfl rfl hc18) rfl (by decide) (q_move e17_12) ?_
        refine GoOps.q (v := .int .i64 (IntKind.wrap .i64 (y6 + y10))) (want_yes rfl rfl rfl hc18) rfl (by decide) (q_move e17_15) ?_
        refine GoOps.q (v := .int .i64 (IntKind.wrap .i64 (1 + y2))) (want_yes rfl rfl rfl hc18) rfl (by decide) (q_move e17_11) ?_
        refine call_dst (want_yes rfl rfl rfl hc18) (by decide) body8 (victim_Score_s _ _ _ _ _ h) rfl ?_
        rintro _ H51 ⟨y52, rfl, h⟩
        refine GoOps.q (v := .int .i64 y12) (want_yes rfl rfl rfl hc18) rfl (by decide) (q_move e17_16) ?_
        refine GoOps.q (v := .bool (decide (y12 ≤ y52))) (want_yes rfl rfl rfl hc18) rfl (by decide) (q_geq rfl rfl) ?_
        refine GoOps.q (v := .bool (decide (y12 ≤ y52))) rfl rfl (by decide) (q_pickT (btT rfl hc18) rfl) ?_
        exact hj20 (decide (y12 ≤ y52)) _ _ h (by exact ⟨e17_11, e17_12, e17_13, rfl⟩)
      · have h := h.2 hc18
        refine no_dst (want_no rfl rfl rfl hc18) rfl (by decide) ?_
        refine no_dst (want_no rfl rfl rfl hc18) rfl (by decide) ?_
        refine no_dst (want_no rfl rfl rfl hc18) rfl (by decide) ?_
        refine no_dst (want_no rfl rfl rfl hc18) rfl (by decide) ?_
        refine no_dst (want_no rfl rfl rfl hc18) rfl (by decide) ?_
        refine no_dst (want_no rfl rfl rfl hc18) rfl (by decide) ?_
        refine GoOps.q (v := .bool false) rfl rfl (by decide) (q_pickF (btF rfl hc18) rfl) ?_
        exact hj20 false _ _ h (by exact ⟨e17_11, e17_12, e17_13, rfl⟩)
  · intro j15 hj15 h
    rcases bor (decide (0 ≤ y12)) with hc13 | hc13
    · have h := h.1 hc13
      refine GoOps.q (v := .int .i64 y8) (want_yes rfl rfl rfl hc13) rfl (by decide) (q_move rfl) ?_
      refine GoOps.q (v := .int .i64 y6) (want_yes rfl rfl rfl hc13) rfl (by decide) (q_move rfl) ?_
      refine GoOps.q (v := .int .i64 (IntKind.wrap .i64 (1 + y2))) (want_yes rfl rfl rfl hc13) rfl (by decide) (q_move rfl) ?_
      refine call_dst (want_yes rfl rfl rfl hc13) (by decide) body8 (victim_Score_s _ _ _ _ _ h) rfl ?_
      rintro _ H53 ⟨y54, rfl, h⟩
      refine GoOps.q (v := .int .i64 y12) (want_yes rfl rfl rfl hc13) rfl (by decide) (q_move rfl) ?_
      refine GoOps.q (v := .bool (decide (y12 ≤ y54))) (want_yes rfl rfl rfl hc13) rfl (by decide) (q_geq rfl rfl) ?_
      refine GoOps.q (v := .bool (decide (y12 ≤ y54))) rfl rfl (by decide) (q_pickT (btT rfl hc13) rfl) ?_
      exact hj15 (decide (y12 ≤ y54)) _ _ h (by exact ⟨rfl, rfl, rfl, rfl, rfl, rfl⟩)
    · have h := h.2 hc13
      refine no_dst (want_no rfl rfl rfl hc13) rfl (by decide) ?_
      refine no_dst (want_no rfl rfl rfl hc13) rfl (by decide) ?_
      refine no_dst (want_no rfl rfl rfl hc13) rfl (by decide) ?_
      refine no_dst (want_no rfl rfl rfl hc13) rfl (by decide) ?_
      refine no_dst (want_no rfl rfl rfl hc13) rfl (by decide) ?_
      refine no_dst (want_no rfl rfl rfl hc13) rfl (by decide) ?_
      refine GoOps.q (v := .bool false) rfl rfl (by decide) (q_pickF (btF rfl hc13) rfl) ?_
      exact hj15 false _ _ h (by exact ⟨rfl, rfl, rfl, rfl, rfl, rfl⟩)

/-- keelson.keelsonref11.Better -/
def keelsonref11_Better (p0 : (Int × Int × Int)) (p1 : (Int × Int × Int)) (H : PH) (Q : Bool → PH → Prop) : Prop :=
  mNew H (row [.int .i64 p0.1, .int .i64 p0.2.1, .int .i64 p0.2.2] 27) fun a1 H2 =>
  mNew H2 (row [.int .i64 p1.1, .int .i64 p1.2.1, .int .i64 p1.2.2] 27) fun a4 H5 =>
  mIdxA 3 a1 1 0 fun a7 =>
  mLd (.int .i64) H5 a7 fun x9 =>
  mIdxA 3 a4 1 0 fun a11 =>
  mLd (.int .i64) H5 a11 fun x13 =>
  mIf (x9 != x13)
  (mIdxA 3 a1 1 0 fun a16 =>
  mLd (.int .i64) H5 a16 fun x18 =>
  mIdxA 3 a4 1 0 fun a20 =>
  mLd (.int .i64) H5 a20 fun x22 =>
  Q (decide (x22 < x18)) H5)
  (mIdxA 3 a1 1 1 fun a24 =>
  mLd (.int .i64) H5 a24 fun x26 =>
  mIdxA 3 a4 1 1 fun a28 =>
  mLd (.int .i64) H5 a28 fun x30 =>
  mIf (x26 != x30)
  (mIdxA 3 a1 1 1 fun a33 =>
  mLd (.int .i64) H5 a33 fun x35 =>
  mIdxA 3 a4 1 1 fun a37 =>
  mLd (.int .i64) H5 a37 fun x39 =>
  Q (decide (x35 < x39)) H5)
  (mIdxA 3 a1 1 2 fun a41 =>
  mLd (.int .i64) H5 a41 fun x43 =>
  mIdxA 3 a4 1 2 fun a45 =>
  mLd (.int .i64) H5 a45 fun x47 =>
  Q (decide (x43 < x47)) H5))

set_option maxRecDepth 20000 in
set_option maxHeartbeats 1000000 in
theorem keelsonref11_Better_s (p0 : (Int × Int × Int)) (p1 : (Int × Int × Int)) (H : PH) (Q : Bool → PH → Prop) (h : keelsonref11_Better p0 p1 H Q) :
    CallsH Try.prog 13 #[.agg ([.int .i64 p0.1, .int .i64 p0.2.1, .int .i64 p0.2.2] : List Value).toArray, .agg ([.int .i64 p1.1, .int .i64 p1.2.1, .int .i64 p1.2.2] : List Value).toArray] H (fun v H' => ∃ (r0 : Bool), v = .bool r0 ∧ Q r0 H') := by
  unfold keelsonref11_Better at h
  refine callsH_of_go Try.func13 rfl Try.ntmps13 (Nat.le_of_ble_eq_true rfl) ?_
  refine Go.seq ?_
  refine Go.region rfl ?_
  refine op_dst rfl rfl (by decide) (do_newBox (cs := [.int .i64 p0.1, .int .i64 p0.2.1, .int .i64 p0.2.2]) rfl rfl fun a1 H2 hb3 => ?_) 
  have h := h a1 H2 hb3
  refine op_dst rfl rfl (by decide) (do_newBox (cs := [.int .i64 p1.1, .int .i64 p1.2.1, .int .i64 p1.2.2]) rfl rfl fun a4 H5 hb6 => ?_) 
  have h := h a4 H5 hb6
  refine GoOps.q (v := .bool false) rfl rfl (by decide) (q_assign rfl) ?_
  refine GoOps.nil ?_
  refine Go.seq ?_
  refine Go.seq ?_
  refine Go.region rfl ?_
  obtain ⟨a7, ha8, h⟩ := h
  refine GoOps.q (v := .pointer (some a7)) rfl rfl (by decide) (q_idxA array27 ha8 rfl rfl) ?_
  obtain ⟨x9, hx10, h⟩ := h
  refine GoOps.q (v := .int .i64 x9) rfl rfl (by decide) (q_load scalar3 rfl hx10) ?_
  obtain ⟨a11, ha12, h⟩ := h
  refine GoOps.q (v := .pointer (some a11)) rfl rfl (by decide) (q_idxA array27 ha12 rfl rfl) ?_
  obtain ⟨x13, hx14, h⟩ := h
  refine GoOps.q (v := .int .i64 x13) rfl rfl (by decide) (q_load scalar3 rfl hx14) ?_
  refine GoOps.q (v := .bool (x9 != x13)) rfl rfl (by decide) (q_neq rfl rfl) ?_
  refine GoOps.nil ?_
  rcases bor (x9 != x13) with hc15 | hc15
  · have h := h.1 hc15
    refine Go.condT (btT rfl hc15) ?_
    refine Go.seq ?_
    refine Go.region rfl ?_
    obtain ⟨a16, ha17, h⟩ := h
    refine GoOps.q (v := .pointer (some a16)) rfl rfl (by decide) (q_idxA array27 ha17 rfl rfl) ?_
    obtain ⟨x18, hx19, h⟩ := h
    refine GoOps.q (v := .int .i64 x18) rfl rfl (by decide) (q_load scalar3 rfl hx19) ?_
    obtain ⟨a20, ha21, h⟩ := h
    refine GoOps.q (v := .pointer (some a20)) rfl rfl (by decide) (q_idxA array27 ha21 rfl rfl) ?_
    obtain ⟨x22, hx23, h⟩ := h
    refine GoOps.q (v := .int .i64 x22) rfl rfl (by decide) (q_load scalar3 rfl hx23) ?_
    refine GoOps.q (v := .bool (decide (x22 < x18))) rfl rfl (by decide) (q_gtr rfl rfl) ?_
    refine GoOps.q (v := .bool (decide (x22 < x18))) rfl rfl (by decide) (q_assign rfl) ?_
    refine GoOps.nil ?_
    exact Go.ret ⟨.inl rfl, _, _, DOk.nil, (resOk1 Try.results13 rfl), ⟨_, rfl, h⟩⟩
  · have h := h.2 hc15
    refine Go.condF (btF rfl hc15) ?_
    refine Go.skip ?_
    refine Go.seq ?_
    refine Go.seq ?_
    refine Go.region rfl ?_
    obtain ⟨a24, ha25, h⟩ := h
    refine GoOps.q (v := .pointer (some a24)) rfl rfl (by decide) (q_idxA array27 ha25 rfl rfl) ?_
    obtain ⟨x26, hx27, h⟩ := h
    refine GoOps.q (v := .int .i64 x26) rfl rfl (by decide) (q_load scalar3 rfl hx27) ?_
    obtain ⟨a28, ha29, h⟩ := h
    refine GoOps.q (v := .pointer (some a28)) rfl rfl (by decide) (q_idxA array27 ha29 rfl rfl) ?_
    obtain ⟨x30, hx31, h⟩ := h
    refine GoOps.q (v := .int .i64 x30) rfl rfl (by decide) (q_load scalar3 rfl hx31) ?_
    refine GoOps.q (v := .bool (x26 != x30)) rfl rfl (by decide) (q_neq rfl rfl) ?_
    refine GoOps.nil ?_
    rcases bor (x26 != x30) with hc32 | hc32
    · have h := h.1 hc32
      refine Go.condT (btT rfl hc32) ?_
      refine Go.seq ?_
      refine Go.region rfl ?_
      obtain ⟨a33, ha34, h⟩ := h
      refine GoOps.q (v := .pointer (some a33)) rfl rfl (by decide) (q_idxA array27 ha34 rfl rfl) ?_
      obtain ⟨x35, hx36, h⟩ := h
      refine GoOps.q (v := .int .i64 x35) rfl rfl (by decide) (q_load scalar3 rfl hx36) ?_
      obtain ⟨a37, ha38, h⟩ := h
      refine GoOps.q (v := .pointer (some a37)) rfl rfl (by decide) (q_idxA array27 ha38 rfl rfl) ?_
      obtain ⟨x39, hx40, h⟩ := h
      refine GoOps.q (v := .int .i64 x39) rfl rfl (by decide) (q_load scalar3 rfl hx40) ?_
      refine GoOps.q (v := .bool (decide (x35 < x39))) rfl rfl (by decide) (q_lss rfl rfl) ?_
      refine GoOps.q (v := .bool (decide (x35 < x39))) rfl rfl (by decide) (q_assign rfl) ?_
      refine GoOps.nil ?_
      exact Go.ret ⟨.inl rfl, _, _, DOk.nil, (resOk1 Try.results13 rfl), ⟨_, rfl, h⟩⟩
    · have h := h.2 hc32
      refine Go.condF (btF rfl hc32) ?_
      refine Go.skip ?_
      refine Go.seq ?_
      refine Go.region rfl ?_
      obtain ⟨a41, ha42, h⟩ := h
      refine GoOps.q (v := .pointer (some a41)) rfl rfl (by decide) (q_idxA array27 ha42 rfl rfl) ?_
      obtain ⟨x43, hx44, h⟩ := h
      refine GoOps.q (v := .int .i64 x43) rfl rfl (by decide) (q_load scalar3 rfl hx44) ?_
      obtain ⟨a45, ha46, h⟩ := h
      refine GoOps.q (v := .pointer (some a45)) rfl rfl (by decide) (q_idxA array27 ha46 rfl rfl) ?_
      obtain ⟨x47, hx48, h⟩ := h
      refine GoOps.q (v := .int .i64 x47) rfl rfl (by decide) (q_load scalar3 rfl hx48) ?_
      refine GoOps.q (v := .bool (decide (x43 < x47))) rfl rfl (by decide) (q_lss rfl rfl) ?_
      refine GoOps.q (v := .bool (decide (x43 < x47))) rfl rfl (by decide) (q_assign rfl) ?_
      refine GoOps.nil ?_
      exact Go.ret ⟨.inl rfl, _, _, DOk.nil, (resOk1 Try.results13 rfl), ⟨_, rfl, h⟩⟩

/-- keelson.keelsonlaw19.VictimOrders -/
def keelsonlaw19_VictimOrders (p0 : (Int × Int × Int)) (p1 : (Int × Int × Int)) (p2 : (Int × Int × Int)) (H : PH) (Q : Bool → PH → Prop) : Prop :=
  mNew H (row [.int .i64 p0.1, .int .i64 p0.2.1, .int .i64 p0.2.2] 27) fun a1 H2 =>
  mNew H2 (row [.int .i64 p1.1, .int .i64 p1.2.1, .int .i64 p1.2.2] 27) fun a4 H5 =>
  mNew H5 (row [.int .i64 p2.1, .int .i64 p2.2.1, .int .i64 p2.2.2] 27) fun a7 H8 =>
  mLdR (fun (x : (Int × Int × Int)) => [.int .i64 x.1, .int .i64 x.2.1, .int .i64 x.2.2]) H8 a1 3 fun x10 =>
  mLdR (fun (x : (Int × Int × Int)) => [.int .i64 x.1, .int .i64 x.2.1, .int .i64 x.2.2]) H8 a4 3 fun x12 =>
  mLdR (fun (x : (Int × Int × Int)) => [.int .i64 x.1, .int .i64 x.2.1, .int .i64 x.2.2]) H8 a1 3 fun x14 =>
  mLdR (fun (x : (Int × Int × Int)) => [.int .i64 x.1, .int .i64 x.2.1, .int .i64 x.2.2]) H8 a4 3 fun x16 =>
  victim_Better (x10.1, x10.2.1, x10.2.2) (x12.1, x12.2.1, x12.2.2) H8 fun y19 H18 =>
  mSameA H18 a4 3 ([.int .i64 x16.1, .int .i64 x16.2.1, .int .i64 x16.2.2]) <|
  mSameA H18 a1 3 ([.int .i64 x14.1, .int .i64 x14.2.1, .int .i64 x14.2.2]) <|
  keelsonref11_Better (x14.1, x14.2.1, x14.2.2) (x16.1, x16.2.1, x16.2.2) H18 fun y23 H22 =>
  mJoin (fun (s25 : Bool) (H27 : PH) =>
  mIf s25
  (Q false H27)
  (mLdR (fun (x : (Int × Int × Int)) => [.int .i64 x.1, .int .i64 x.2.1, .int .i64 x.2.2]) H27 a1 3 fun x30 =>
  mLdR (fun (x : (Int × Int × Int)) => [.int .i64 x.1, .int .i64 x.2.1, .int .i64 x.2.2]) H27 a4 3 fun x32 =>
  mJoin (fun (s35 : Bool) (H37 : PH) =>
  mIf s35
  (Q false H37)
  (mLdR (fun (x : (Int × Int × Int)) => [.int .i64 x.1, .int .i64 x.2.1, .int .i64 x.2.2]) H37 a1 3 fun x40 =>
  mLdR (fun (x : (Int × Int × Int)) => [.int .i64 x.1, .int .i64 x.2.1, .int .i64 x.2.2]) H37 a4 3 fun x42 =>
  victim_Better (x40.1, x40.2.1, x40.2.2) (x42.1, x42.2.1, x42.2.2) H37 fun y45 H44 =>
  mJoin (fun (s47 : Bool) (H49 : PH) =>
  mJoin (fun (s52 : Bool) (H54 : PH) =>
  mJoin (fun (s57 : Bool) (H59 : PH) =>
  Q s57 H59)
  fun j58 =>
  mIf s52
  (keelsonlaw19_awake H54 fun y62 H61 =>
  j58 y62 H61)
  (j58 false H54))
  fun j53 =>
  mIf s47
  (j53 true H49)
  (mLdR (fun (x : (Int × Int × Int)) => [.int .i64 x.1, .int .i64 x.2.1, .int .i64 x.2.2]) H49 a1 3 fun x63 =>
  mLdR (fun (x : (Int × Int × Int)) => [.int .i64 x.1, .int .i64 x.2.1, .int .i64 x.2.2]) H49 a7 3 fun x65 =>
  victim_Better (x63.1, x63.2.1, x63.2.2) (x65.1, x65.2.1, x65.2.2) H49 fun y68 H67 =>
  j53 y68 H67))
  fun j48 =>
  mIf (!y45)
  (j48 true H44)
  (mLdR (fun (x : (Int × Int × Int)) => [.int .i64 x.1, .int .i64 x.2.1, .int .i64 x.2.2]) H44 a4 3 fun x69 =>
  mLdR (fun (x : (Int × Int × Int)) => [.int .i64 x.1, .int .i64 x.2.1, .int .i64 x.2.2]) H44 a7 3 fun x71 =>
  victim_Better (x69.1, x69.2.1, x69.2.2) (x71.1, x71.2.1, x71.2.2) H44 fun y74 H73 =>
  j48 (!y74) H73)))
  fun j36 =>
  mIf (!(andAll [x30.1 == x32.1, x30.2.1 == x32.2.1, x30.2.2 == x32.2.2]))
  (mLdR (fun (x : (Int × Int × Int)) => [.int .i64 x.1, .int .i64 x.2.1, .int .i64 x.2.2]) H27 a1 3 fun x75 =>
  mLdR (fun (x : (Int × Int × Int)) => [.int .i64 x.1, .int .i64 x.2.1, .int .i64 x.2.2]) H27 a4 3 fun x77 =>
  mLdR (fun (x : (Int × Int × Int)) => [.int .i64 x.1, .int .i64 x.2.1, .int .i64 x.2.2]) H27 a4 3 fun x79 =>
  mLdR (fun (x : (Int × Int × Int)) => [.int .i64 x.1, .int .i64 x.2.1, .int .i64 x.2.2]) H27 a1 3 fun x81 =>
  victim_Better (x75.1, x75.2.1, x75.2.2) (x77.1, x77.2.1, x77.2.2) H27 fun y84 H83 =>
  mSameA H83 a1 3 ([.int .i64 x81.1, .int .i64 x81.2.1, .int .i64 x81.2.2]) <|
  mSameA H83 a4 3 ([.int .i64 x79.1, .int .i64 x79.2.1, .int .i64 x79.2.2]) <|
  victim_Better (x79.1, x79.2.1, x79.2.2) (x81.1, x81.2.1, x81.2.2) H83 fun y88 H87 =>
  j36 (y84 == y88) H87)
  (j36 false H27)))
  fun j26 =>
  mIf (y19 != y23)
  (j26 true H22)
  (mLdR (fun (x : (Int × Int × Int)) => [.int .i64 x.1, .int .i64 x.2.1, .int .i64 x.2.2]) H22 a1 3 fun x89 =>
  mLdR (fun (x : (Int × Int × Int)) => [.int .i64 x.1, .int .i64 x.2.1, .int .i64 x.2.2]) H22 a1 3 fun x91 =>
  victim_Better (x89.1, x89.2.1, x89.2.2) (x91.1, x91.2.1, x91.2.2) H22 fun y94 H93 =>
  j26 y94 H93)

set_option maxRecDepth 20000 in
set_option maxHeartbeats 1000000 in
theorem keelsonlaw19_VictimOrders_s (p0 : (Int × Int × Int)) (p1 : (Int × Int × Int)) (p2 : (Int × Int × Int)) (H : PH) (Q : Bool → PH → Prop) (h : keelsonlaw19_VictimOrders p0 p1 p2 H Q) :
    CallsH Try.prog 5 #[.agg ([.int .i64 p0.1, .int .i64 p0.2.1, .int .i64 p0.2.2] : List Value).toArray, .agg ([.int .i64 p1.1, .int .i64 p1.2.1, .int .i64 p1.2.2] : List Value).toArray, .agg ([.int .i64 p2.1, .int .i64 p2.2.1, .int .i64 p2.2.2] : List Value).toArray] H (fun v H' => ∃ (r0 : Bool), v = .bool r0 ∧ Q r0 H') := by
  unfold keelsonlaw19_VictimOrders at h
  refine callsH_of_go Try.func5 rfl Try.ntmps5 (Nat.le_of_ble_eq_true rfl) ?_
  refine Go.seq ?_
  refine Go.region rfl ?_
  refine op_dst rfl rfl (by decide) (do_newBox (cs := [.int .i64 p0.1, .int .i64 p0.2.1, .int .i64 p0.2.2]) rfl rfl fun a1 H2 hb3 => ?_) 
  have h := h a1 H2 hb3
  refine op_dst rfl rfl (by decide) (do_newBox (cs := [.int .i64 p1.1, .int .i64 p1.2.1, .int .i64 p1.2.2]) rfl rfl fun a4 H5 hb6 => ?_) 
  have h := h a4 H5 hb6
  refine op_dst rfl rfl (by decide) (do_newBox (cs := [.int .i64 p2.1, .int .i64 p2.2.1, .int .i64 p2.2.2]) rfl rfl fun a7 H8 hb9 => ?_) 
  have h := h a7 H8 hb9
  refine GoOps.q (v := .bool false) rfl rfl (by decide) (q_assign rfl) ?_
  refine GoOps.nil ?_
  refine Go.seq ?_
  refine Go.seq ?_
  refine Go.draw mixed ?_
  obtain ⟨x10, hx11, h⟩ := h
  refine plan_load (i := 0) (d := 7) (S2 := 1) (v := .agg ([.int .i64 x10.1, .int .i64 x10.2.1, .int .i64 x10.2.2] : List Value).toArray) rfl (by decide +kernel) rfl (q_loadA aggr27 rfl hx11) ?_
  obtain ⟨x12, hx13, h⟩ := h
  refine plan_load (i := 1) (d := 8) (S2 := 3) (v := .agg ([.int .i64 x12.1, .int .i64 x12.2.1, .int .i64 x12.2.2] : List Value).toArray) rfl (by decide +kernel) rfl (q_loadA aggr27 rfl hx13) ?_
  obtain ⟨x14, hx15, h⟩ := h
  refine plan_load (i := 3) (d := 10) (S2 := 11) (v := .agg ([.int .i64 x14.1, .int .i64 x14.2.1, .int .i64 x14.2.2] : List Value).toArray) rfl (by decide +kernel) rfl (q_loadA aggr27 rfl hx15) ?_
  obtain ⟨x16, hx17, h⟩ := h
  refine plan_load (i := 4) (d := 11) (S2 := 27) (v := .agg ([.int .i64 x16.1, .int .i64 x16.2.1, .int .i64 x16.2.2] : List Value).toArray) rfl (by decide +kernel) rfl (q_loadA aggr27 rfl hx17) ?_
  refine plan_one (j := 2) (S2 := 31) (by decide +kernel) rfl (by decide) rfl ?_
  refine do_call2 body12 (victim_Better_s _ _ _ _ h) rfl ?_
  rintro _ H18 ⟨y19, rfl, h⟩
  obtain ⟨hr20, h⟩ := h
  obtain ⟨hr21, h⟩ := h
  refine ⟨_, (.inr ⟨⟨_, _, rfl, rfl, q_loadA aggr27 rfl hr20⟩, _, rfl, .inr ⟨⟨_, _, rfl, rfl, q_loadA aggr27 rfl hr21⟩, _, rfl, .inl ⟨⟨[2], by decide +kernel, rfl⟩, .inl ⟨⟨[2], by decide +kernel, rfl⟩, rfl⟩⟩⟩⟩), ?_⟩
  refine plan_one (j := 5) (S2 := 63) (by decide +kernel) rfl (by decide) rfl ?_
  refine do_call2 body13 (keelsonref11_Better_s _ _ _ _ h) rfl ?_
  rintro _ H22 ⟨y23, rfl, h⟩
  refine ⟨_, (.inl ⟨⟨[5], by decide +kernel, rfl⟩, .inl ⟨⟨[5], by decide +kernel, rfl⟩, rfl⟩⟩), ?_⟩
  refine plan_pure (i := 6) (d := 13) (S2 := 127) (v := .bool (y19 != y23)) rfl (by decide +kernel) rfl (q_neqB Try.underlying4 rfl rfl) ?_
  refine plan_pure (i := 7) (d := 14) (S2 := 255) (v := .bool (y19 != y23)) rfl (by decide +kernel) rfl (q_move rfl) ?_
  refine join_plan 4095 [9, 8] (fun ρ (s25 : Bool) => ρ 3 = .pointer (some a1) ∧ ρ 4 = .pointer (some a4) ∧ ρ 5 = .pointer (some a7) ∧ ρ 18 = .bool s25) h ?_ ?_ <;> clear h
  · intro s25 H27 ρ h hE
    obtain ⟨e28_3, e28_4, e28_5, e28_18⟩ := hE
    refine plan_done (by decide +kernel) ?_
    rcases bor s25 with hc29 | hc29
    · have h := h.1 hc29
      refine Go.condT (btT e28_18 hc29) ?_
      refine Go.seq ?_
      refine Go.region rfl ?_
      refine GoOps.q (v := .bool false) rfl rfl (by decide) (q_assign rfl) ?_
      refine GoOps.nil ?_
      exact Go.ret ⟨.inl rfl, _, _, DOk.nil, (resOk1 Try.results5 rfl), ⟨_, rfl, h⟩⟩
    · have h := h.2 hc29
      refine Go.condF (btF e28_18 hc29) ?_
      refine Go.skip ?_
      refine Go.seq ?_
      refine Go.seq ?_
      refine Go.draw mixed ?_
      obtain ⟨x30, hx31, h⟩ := h
      refine plan_load (i := 0) (d := 19) (S2 := 1) (v := .agg ([.int .i64 x30.1, .int .i64 x30.2.1, .int .i64 x30.2.2] : List Value).toArray) rfl (by decide +kernel) rfl (q_loadA aggr27 e28_3 hx31) ?_
      obtain ⟨x32, hx33, h⟩ := h
      refine plan_load (i := 1) (d := 20) (S2 := 3) (v := .agg ([.int .i64 x32.1, .int .i64 x32.2.1, .int .i64 x32.2.2] : List Value).toArray) rfl (by decide +kernel) rfl (q_loadA aggr27 e28_4 hx33) ?_
      refine plan_pure (i := 2) (d := 21) (S2 := 7) (v := .bool (!(andAll [x30.1 == x32.1, x30.2.1 == x32.2.1, x30.2.2 == x32.2.2]))) rfl (by decide +kernel) rfl (q_neqA eqg27 (eqis_array array27 rfl ⟨(eqat_int Try.underlying3 rfl rfl), (eqat_int Try.underlying3 rfl rfl), (eqat_int Try.underlying3 rfl rfl), trivial⟩) rfl rfl) ?_
      refine plan_pure (i := 3) (d := 22) (S2 := 15) (v := .bool (!(andAll [x30.1 == x32.1, x30.2.1 == x32.2.1, x30.2.2 == x32.2.2]))) rfl (by decide +kernel) rfl (q_move rfl) ?_
      refine join_plan 4095 [8, 7, 5, 4, 1, 0] (fun ρ (s35 : Bool) => ρ 3 = .pointer (some a1) ∧ ρ 4 = .pointer (some a4) ∧ ρ 5 = .pointer (some a7) ∧ ρ 30 = .bool s35) h ?_ ?_ <;> clear h
      · intro s35 H37 ρ h hE
        obtain ⟨e38_3, e38_4, e38_5, e38_30⟩ := hE
        refine plan_done (by decide +kernel) ?_
        rcases bor s35 with hc39 | hc39
        · have h := h.1 hc39
          refine Go.condT (btT e38_30 hc39) ?_
          refine Go.seq ?_
          refine Go.region rfl ?_
          refine GoOps.q (v := .bool false) rfl rfl (by decide) (q_assign rfl) ?_
          refine GoOps.nil ?_
          exact Go.ret ⟨.inl rfl, _, _, DOk.nil, (resOk1 Try.results5 rfl), ⟨_, rfl, h⟩⟩
        · have h := h.2 hc39
          refine Go.condF (btF e38_30 hc39) ?_
          refine Go.skip ?_
          refine Go.seq ?_
          refine Go.region rfl ?_
          obtain ⟨x40, hx41, h⟩ := h
          refine GoOps.q (v := .agg ([.int .i64 x40.1, .int .i64 x40.2.1, .int .i64 x40.2.2] : List Value).toArray) rfl rfl (by decide) (q_loadA aggr27 e38_3 hx41) ?_
          obtain ⟨x42, hx43, h⟩ := h
          refine GoOps.q (v := .agg ([.int .i64 x42.1, .int .i64 x42.2.1, .int .i64 x42.2.2] : List Value).toArray) rfl rfl (by decide) (q_loadA aggr27 e38_4 hx43) ?_
          refine call_dst rfl (by decide) body12 (victim_Better_s _ _ _ _ h) rfl ?_
          rintro _ H44 ⟨y45, rfl, h⟩
          refine GoOps.q (v := .bool (!y45)) rfl rfl (by decide) (q_not rfl) ?_
          refine GoOps.q (v := .bool (!y45)) rfl rfl (by decide) (q_move rfl) ?_
          refine join_ops 5 (fun ρ (s47 : Bool) => ρ 3 = .pointer (some a1) ∧ ρ 5 = .pointer (some a7) ∧ ρ 40 = .bool s47) h ?_ ?_ <;> clear h
          · intro s47 H49 ρ h hE
            obtain ⟨e50_3, e50_5, e50_40⟩ := hE
            refine GoOps.q (v := .bool s47) rfl rfl (by decide) (q_move e50_40) ?_
            refine join_ops 4 (fun ρ (s52 : Bool) => ρ 45 = .bool s52) h ?_ ?_ <;> clear h
            · intro s52 H54 ρ h hE
              have e55_45 := hE
              refine GoOps.q (v := .bool s52) rfl rfl (by decide) (q_move e55_45) ?_
              refine join_ops 2 (fun ρ (s57 : Bool) => ρ 48 = .bool s57) h ?_ ?_ <;> clear h
              · intro s57 H59 ρ h hE
                have e60_48 := hE
                refine GoOps.q (v := .bool s57) rfl rfl (by decide) (q_assign e60_48) ?_
                refine GoOps.nil ?_
                exact Go.ret ⟨.inl rfl, _, _, DOk.nil, (resOk1 Try.results5 rfl), ⟨_, rfl, h⟩⟩
              · intro j58 hj58 h
                rcases bor s52 with hc56 | hc56
                · have h := h.1 hc56
                  refine call_dst (want_yes rfl rfl rfl hc56) (by decide) body10 (keelsonlaw19_awake_s _ _ h) rfl ?_
                  rintro _ H61 ⟨y62, rfl, h⟩
                  refine GoOps.q (v := .bool y62) rfl rfl (by decide) (q_pickT (btT rfl hc56) rfl) ?_
                  exact hj58 y62 _ _ h (by exact rfl)
                · have h := h.2 hc56
                  refine no_dst (want_no rfl rfl rfl hc56) rfl (by decide) ?_
                  refine GoOps.q (v := .bool false) rfl rfl (by decide) (q_pickF (btF rfl hc56) rfl) ?_
                  exact hj58 false _ _ h (by exact rfl)
            · intro j53 hj53 h
              rcases bor s47 with hc51 | hc51
              · have h := h.1 hc51
                refine no_dst (want_no rfl rfl rfl hc51) rfl (by decide) ?_
                refine no_dst (want_no rfl rfl rfl hc51) rfl (by decide) ?_
                refine no_dst (want_no rfl rfl rfl hc51) rfl (by decide) ?_
                refine GoOps.q (v := .bool true) rfl rfl (by decide) (q_pickT (btT rfl hc51) rfl) ?_
                exact hj53 true _ _ h (by exact rfl)
              · have h := h.2 hc51
                obtain ⟨x63, hx64, h⟩ := h
                refine GoOps.q (v := .agg ([.int .i64 x63.1, .int .i64 x63.2.1, .int .i64 x63.2.2] : List Value).toArray) (want_yes rfl rfl rfl hc51) rfl (by decide) (q_loadA aggr27 e50_3 hx64) ?_
                obtain ⟨x65, hx66, h⟩ := h
                refine GoOps.q (v := .agg ([.int .i64 x65.1, .int .i64 x65.2.1, .int .i64 x65.2.2] : List Value).toArray) (want_yes rfl rfl rfl hc51) rfl (by decide) (q_loadA aggr27 e50_5 hx66) ?_
                refine call_dst (want_yes rfl rfl rfl hc51) (by decide) body12 (victim_Better_s _ _ _ _ h) rfl ?_
                rintro _ H67 ⟨y68, rfl, h⟩
                refine GoOps.q (v := .bool y68) rfl rfl (by decide) (q_pickF (btF rfl hc51) rfl) ?_
                exact hj53 y68 _ _ h (by exact rfl)
          · intro j48 hj48 h
            rcases bor (!y45) with hc46 | hc46
            · have h := h.1 hc46
              refine no_dst (want_no rfl rfl rfl hc46) rfl (by decide) ?_
              refine no_dst (want_no rfl rfl rfl hc46) rfl (by decide) ?_
              refine no_dst (want_no rfl rfl rfl hc46) rfl (by decide) ?_
              refine no_dst (want_no rfl rfl rfl hc46) rfl (by decide) ?_
              refine GoOps.q (v := .bool true) rfl rfl (by decide) (q_pickT (btT rfl hc46) rfl) ?_
              exact hj48 true _ _ h (by exact ⟨e38_3, e38_5, rfl⟩)
            · have h := h.2 hc46
              obtain ⟨x69, hx70, h⟩ := h
              refine GoOps.q (v := .agg ([.int .i64 x69.1, .int .i64 x69.2.1, .int .i64 x69.2.2] : List Value).toArray) (want_yes rfl rfl rfl hc46) rfl (by decide) (q_loadA aggr27 e38_4 hx70) ?_
              obtain ⟨x71, hx72, h⟩ := h
              refine GoOps.q (v := .agg ([.int .i64 x71.1, .int .i64 x71.2.1, .int .i64 x71.2.2] : List Value).toArray) (want_yes rfl rfl rfl hc46) rfl (by decide) (q_loadA aggr27 e38_5 hx72) ?_
              refine call_dst (want_yes rfl rfl rfl hc46) (by decide) body12 (victim_Better_s _ _ _ _ h) rfl ?_
              rintro _ H73 ⟨y74, rfl, h⟩
              refine GoOps.q (v := .bool (!y74)) (want_yes rfl rfl rfl hc46) rfl (by decide) (q_not rfl) ?_
              refine GoOps.q (v := .bool (!y74)) rfl rfl (by decide) (q_pickF (btF rfl hc46) rfl) ?_
              exact hj48 (!y74) _ _ h (by exact ⟨e38_3, e38_5, rfl⟩)
      · intro j36 hj36 h
        rcases bor (!(andAll [x30.1 == x32.1, x30.2.1 == x32.2.1, x30.2.2 == x32.2.2])) with hc34 | hc34
        · have h := h.1 hc34
          obtain ⟨x75, hx76, h⟩ := h
          refine plan_load (i := 4) (d := 23) (S2 := 31) (v := .agg ([.int .i64 x75.1, .int .i64 x75.2.1, .int .i64 x75.2.2] : List Value).toArray) rfl (by decide +kernel) (want_yes rfl rfl rfl hc34) (q_loadA aggr27 e28_3 hx76) ?_
          obtain ⟨x77, hx78, h⟩ := h
          refine plan_load (i := 5) (d := 24) (S2 := 63) (v := .agg ([.int .i64 x77.1, .int .i64 x77.2.1, .int .i64 x77.2.2] : List Value).toArray) rfl (by decide +kernel) (want_yes rfl rfl rfl hc34) (q_loadA aggr27 e28_4 hx78) ?_
          obtain ⟨x79, hx80, h⟩ := h
          refine plan_load (i := 7) (d := 26) (S2 := 191) (v := .agg ([.int .i64 x79.1, .int .i64 x79.2.1, .int .i64 x79.2.2] : List Value).toArray) rfl (by decide +kernel) (want_yes rfl rfl rfl hc34) (q_loadA aggr27 e28_4 hx80) ?_
          obtain ⟨x81, hx82, h⟩ := h
          refine plan_load (i := 8) (d := 27) (S2 := 447) (v := .agg ([.int .i64 x81.1, .int .i64 x81.2.1, .int .i64 x81.2.2] : List Value).toArray) rfl (by decide +kernel) (want_yes rfl rfl rfl hc34) (q_loadA aggr27 e28_3 hx82) ?_
          refine plan_one (j := 6) (S2 := 511) (by decide +kernel) rfl (by decide) (want_yes rfl rfl rfl hc34) ?_
          refine do_call2 body12 (victim_Better_s _ _ _ _ h) rfl ?_
          rintro _ H83 ⟨y84, rfl, h⟩
          obtain ⟨hr85, h⟩ := h
          obtain ⟨hr86, h⟩ := h
          refine ⟨_, (.inr ⟨⟨_, _, rfl, rfl, q_loadA aggr27 e28_3 hr85⟩, _, rfl, .inr ⟨⟨_, _, rfl, rfl, q_loadA aggr27 e28_4 hr86⟩, _, rfl, .inl ⟨⟨[6], by decide +kernel, rfl⟩, .inl ⟨⟨[6], by decide +kernel, rfl⟩, .inl ⟨⟨[2, 3, 6], by decide +kernel, rfl⟩, .inl ⟨⟨[2, 3, 6], by decide +kernel, rfl⟩, rfl⟩⟩⟩⟩⟩⟩), ?_⟩
          refine plan_one (j := 9) (S2 := 1023) (by decide +kernel) rfl (by decide) (want_yes rfl rfl rfl hc34) ?_
          refine do_call2 body12 (victim_Better_s _ _ _ _ h) rfl ?_
          rintro _ H87 ⟨y88, rfl, h⟩
          refine ⟨_, (.inl ⟨⟨[9], by decide +kernel, rfl⟩, .inl ⟨⟨[9], by decide +kernel, rfl⟩, rfl⟩⟩), ?_⟩
          refine plan_pure (i := 10) (d := 29) (S2 := 2047) (v := .bool (y84 == y88)) rfl (by decide +kernel) (want_yes rfl rfl rfl hc34) (q_eqlB Try.underlying4 rfl rfl) ?_
          refine plan_pure (i := 11) (d := 30) (S2 := 4095) (v := .bool (y84 == y88)) rfl (by decide +kernel) rfl (q_pickT (btT rfl hc34) rfl) ?_
          refine plan_weaken (L2 := [8, 7, 5, 4, 1, 0]) (by decide) ?_
          exact hj36 _ _ _ h ⟨e28_3, e28_4, e28_5, rfl⟩
        · have h := h.2 hc34
          refine plan_skip (i := 4) (d := 23) (S2 := 31) rfl (by decide +kernel) (want_no rfl rfl rfl hc34) ?_
          refine plan_skip (i := 5) (d := 24) (S2 := 63) rfl (by decide +kernel) (want_no rfl rfl rfl hc34) ?_
          refine plan_skip (i := 6) (d := 25) (S2 := 127) rfl (by decide +kernel) (want_no rfl rfl rfl hc34) ?_
          refine plan_skip (i := 7) (d := 26) (S2 := 255) rfl (by decide +kernel) (want_no rfl rfl rfl hc34) ?_
          refine plan_skip (i := 8) (d := 27) (S2 := 511) rfl (by decide +kernel) (want_no rfl rfl rfl hc34) ?_
          refine plan_skip (i := 9) (d := 28) (S2 := 1023) rfl (by decide +kernel) (want_no rfl rfl rfl hc34) ?_
          refine plan_skip (i := 10) (d := 29) (S2 := 2047) rfl (by decide +kernel) (want_no rfl rfl rfl hc34) ?_
          refine plan_pure (i := 11) (d := 30) (S2 := 4095) (v := .bool false) rfl (by decide +kernel) rfl (q_pickF (btF rfl hc34) rfl) ?_
          refine plan_weaken (L2 := [8, 7, 5, 4, 1, 0]) (by decide) ?_
          exact hj36 _ _ _ h ⟨e28_3, e28_4, e28_5, rfl⟩
  · intro j26 hj26 h
    rcases bor (y19 != y23) with hc24 | hc24
    · have h := h.1 hc24
      refine plan_skip (i := 8) (d := 15) (S2 := 511) rfl (by decide +kernel) (want_no rfl rfl rfl hc24) ?_
      refine plan_skip (i := 9) (d := 16) (S2 := 1023) rfl (by decide +kernel) (want_no rfl rfl rfl hc24) ?_
      refine plan_skip (i := 10) (d := 17) (S2 := 2047) rfl (by decide +kernel) (want_no rfl rfl rfl hc24) ?_
      refine plan_pure (i := 11) (d := 18) (S2 := 4095) (v := .bool true) rfl (by decide +kernel) rfl (q_pickT (btT rfl hc24) rfl) ?_
      refine plan_weaken (L2 := [9, 8]) (by decide) ?_
      exact hj26 _ _ _ h ⟨rfl, rfl, rfl, rfl⟩
    · have h := h.2 hc24
      obtain ⟨x89, hx90, h⟩ := h
      refine plan_load (i := 8) (d := 15) (S2 := 511) (v := .agg ([.int .i64 x89.1, .int .i64 x89.2.1, .int .i64 x89.2.2] : List Value).toArray) rfl (by decide +kernel) (want_yes rfl rfl rfl hc24) (q_loadA aggr27 rfl hx90) ?_
      obtain ⟨x91, hx92, h⟩ := h
      refine plan_load (i := 9) (d := 16) (S2 := 1023) (v := .agg ([.int .i64 x91.1, .int .i64 x91.2.1, .int .i64 x91.2.2] : List Value).toArray) rfl (by decide +kernel) (want_yes rfl rfl rfl hc24) (q_loadA aggr27 rfl hx92) ?_
      refine plan_one (j := 10) (S2 := 2047) (by decide +kernel) rfl (by decide) (want_yes rfl rfl rfl hc24) ?_
      refine do_call2 body12 (victim_Better_s _ _ _ _ h) rfl ?_
      rintro _ H93 ⟨y94, rfl, h⟩
      refine ⟨_, (.inl ⟨⟨[10], by decide +kernel, rfl⟩, .inl ⟨⟨[10], by decide +kernel, rfl⟩, rfl⟩⟩), ?_⟩
      refine plan_pure (i := 11) (d := 18) (S2 := 4095) (v := .bool y94) rfl (by decide +kernel) rfl (q_pickF (btF rfl hc24) rfl) ?_
      refine plan_weaken (L2 := [9, 8]) (by decide) ?_
      exact hj26 _ _ _ h ⟨rfl, rfl, rfl, rfl⟩

/-- keelson.keelsonalike.Config -/
def keelsonalike_Config (p0 : (Int × Int × Int)) (p1 : Bool) (H : PH) (Q : (Int × Int × Int) → PH → Prop) : Prop :=
  mNew H (row [.int .i64 p0.1, .int .i64 p0.2.1, .int .i64 p0.2.2] 27) fun a1 H2 =>
  mNew H2 (row [.int .i64 0, .int .i64 0, .int .i64 0] 32) fun a4 H5 =>
  mIf p1
  (mIdxA 3 a1 1 0 fun a8 =>
  mLd (.int .i64) H5 a8 fun x10 =>
  mIdxA 3 a1 1 1 fun a12 =>
  mLd (.int .i64) H5 a12 fun x14 =>
  mIdxA 3 a1 1 2 fun a16 =>
  mLd (.int .i64) H5 a16 fun x18 =>
  keelsonalike_Round x10 24 H5 fun y21 H20 =>
  mSame H20 a16 (.int .i64 x18) <|
  mSame H20 a12 (.int .i64 x14) <|
  keelsonalike_Round x14 3 H20 fun y25 H24 =>
  mSame H24 a16 (.int .i64 x18) <|
  keelsonalike_Round x18 4 H24 fun y28 H27 =>
  mSt H27 a4 ([.int .i64 (IntKind.wrap .i64 (1 + y21)), .int .i64 (IntKind.wrap .i64 (8 + y25)), .int .i64 (IntKind.wrap .i64 (24 + y28))]) fun H29 =>
  mLdR (fun (x : (Int × Int × Int)) => [.int .i64 x.1, .int .i64 x.2.1, .int .i64 x.2.2]) H29 a4 3 fun x31 =>
  Q (x31.1, x31.2.1, x31.2.2) H29)
  (mIdxA 3 a1 1 0 fun a33 =>
  mLd (.int .i64) H5 a33 fun x35 =>
  mIdxA 3 a1 1 1 fun a37 =>
  mLd (.int .i64) H5 a37 fun x39 =>
  mIdxA 3 a1 1 2 fun a41 =>
  mLd (.int .i64) H5 a41 fun x43 =>
  keelsonalike_Round x35 64 H5 fun y46 H45 =>
  mSame H45 a41 (.int .i64 x43) <|
  mSame H45 a37 (.int .i64 x39) <|
  keelsonalike_Round x39 25 H45 fun y50 H49 =>
  mSame H49 a41 (.int .i64 x43) <|
  keelsonalike_Round x43 41 H49 fun y53 H52 =>
  mSt H52 a4 ([.int .i64 (IntKind.wrap .i64 (1 + y46)), .int .i64 (IntKind.wrap .i64 (8 + y50)), .int .i64 (IntKind.wrap .i64 (24 + y53))]) fun H54 =>
  mLdR (fun (x : (Int × Int × Int)) => [.int .i64 x.1, .int .i64 x.2.1, .int .i64 x.2.2]) H54 a4 3 fun x56 =>
  Q (x56.1, x56.2.1, x56.2.2) H54)

set_option maxRecDepth 20000 in
set_option maxHeartbeats 1000000 in
theorem keelsonalike_Config_s (p0 : (Int × Int × Int)) (p1 : Bool) (H : PH) (Q : (Int × Int × Int) → PH → Prop) (h : keelsonalike_Config p0 p1 H Q) :
    CallsH Try.prog 14 #[.agg ([.int .i64 p0.1, .int .i64 p0.2.1, .int .i64 p0.2.2] : List Value).toArray, .bool p1] H (fun v H' => ∃ (r0 : (Int × Int × Int)), v = .agg ([.int .i64 r0.1, .int .i64 r0.2.1, .int .i64 r0.2.2] : List Value).toArray ∧ Q r0 H') := by
  unfold keelsonalike_Config at h
  refine callsH_of_go Try.func14 rfl Try.ntmps14 (Nat.le_of_ble_eq_true rfl) ?_
  refine Go.seq ?_
  refine Go.region rfl ?_
  refine op_dst rfl rfl (by decide) (do_newBox (cs := [.int .i64 p0.1, .int .i64 p0.2.1, .int .i64 p0.2.2]) rfl rfl fun a1 H2 hb3 => ?_) 
  have h := h a1 H2 hb3
  refine op_dst rfl rfl (by decide) (do_new zero32 rfl fun a4 H5 hb6 => ?_) 
  have h := h a4 H5 hb6
  refine GoOps.nil ?_
  refine Go.seq ?_
  refine Go.seq ?_
  refine Go.region rfl ?_
  refine GoOps.q (v := .bool p1) rfl rfl (by decide) (q_move rfl) ?_
  refine GoOps.nil ?_
  rcases bor p1 with hc7 | hc7
  · have h := h.1 hc7
    refine Go.condT (btT rfl hc7) ?_
    refine Go.seq ?_
    refine Go.draw mixed ?_
    obtain ⟨a8, ha9, h⟩ := h
    refine plan_pure (i := 0) (d := 6) (S2 := 1) (v := .pointer (some a8)) rfl (by decide +kernel) rfl (q_idxA array27 ha9 rfl rfl) ?_
    obtain ⟨x10, hx11, h⟩ := h
    refine plan_load (i := 1) (d := 7) (S2 := 3) (v := .int .i64 x10) rfl (by decide +kernel) rfl (q_load scalar3 rfl hx11) ?_
    obtain ⟨a12, ha13, h⟩ := h
    refine plan_pure (i := 4) (d := 10) (S2 := 19) (v := .pointer (some a12)) rfl (by decide +kernel) rfl (q_idxA array27 ha13 rfl rfl) ?_
    obtain ⟨x14, hx15, h⟩ := h
    refine plan_load (i := 5) (d := 11) (S2 := 51) (v := .int .i64 x14) rfl (by decide +kernel) rfl (q_load scalar3 rfl hx15) ?_
    obtain ⟨a16, ha17, h⟩ := h
    refine plan_pure (i := 8) (d := 14) (S2 := 307) (v := .pointer (some a16)) rfl (by decide +kernel) rfl (q_idxA array27 ha17 rfl rfl) ?_
    obtain ⟨x18, hx19, h⟩ := h
    refine plan_load (i := 9) (d := 15) (S2 := 819) (v := .int .i64 x18) rfl (by decide +kernel) rfl (q_load scalar3 rfl hx19) ?_
    refine plan_one (j := 2) (S2 := 823) (by decide +kernel) rfl (by decide) rfl ?_
    refine do_call2 body11 (keelsonalike_Round_s _ _ _ _ h) rfl ?_
    rintro _ H20 ⟨y21, rfl, h⟩
    obtain ⟨hr22, h⟩ := h
    obtain ⟨hr23, h⟩ := h
    refine ⟨_, (.inr ⟨⟨_, _, rfl, rfl, q_load scalar3 rfl hr22⟩, _, rfl, .inr ⟨⟨_, _, rfl, rfl, q_load scalar3 rfl hr23⟩, _, rfl, .inl ⟨⟨[2], by decide +kernel, rfl⟩, rfl⟩⟩⟩), ?_⟩
    refine plan_pure (i := 3) (d := 9) (S2 := 831) (v := .int .i64 (IntKind.wrap .i64 (1 + y21))) rfl (by decide +kernel) rfl (q_add rfl rfl) ?_
    refine plan_one (j := 6) (S2 := 895) (by decide +kernel) rfl (by decide) rfl ?_
    refine do_call2 body11 (keelsonalike_Round_s _ _ _ _ h) rfl ?_
    rintro _ H24 ⟨y25, rfl, h⟩
    obtain ⟨hr26, h⟩ := h
    refine ⟨_, (.inr ⟨⟨_, _, rfl, rfl, q_load scalar3 rfl hr26⟩, _, rfl, .inl ⟨⟨[6], by decide +kernel, rfl⟩, rfl⟩⟩), ?_⟩
    refine plan_pure (i := 7) (d := 13) (S2 := 1023) (v := .int .i64 (IntKind.wrap .i64 (8 + y25))) rfl (by decide +kernel) rfl (q_add rfl rfl) ?_
    refine plan_one (j := 10) (S2 := 2047) (by decide +kernel) rfl (by decide) rfl ?_
    refine do_call2 body11 (keelsonalike_Round_s _ _ _ _ h) rfl ?_
    rintro _ H27 ⟨y28, rfl, h⟩
    refine ⟨_, (.inl ⟨⟨[10], by decide +kernel, rfl⟩, rfl⟩), ?_⟩
    refine plan_pure (i := 11) (d := 17) (S2 := 4095) (v := .int .i64 (IntKind.wrap .i64 (24 + y28))) rfl (by decide +kernel) rfl (q_add rfl rfl) ?_
    refine plan_pure (i := 12) (d := 18) (S2 := 8191) (v := .agg ([.int .i64 (IntKind.wrap .i64 (1 + y21)), .int .i64 (IntKind.wrap .i64 (8 + y25)), .int .i64 (IntKind.wrap .i64 (24 + y28))] : List Value).toArray) rfl (by decide +kernel) rfl (q_build (ps := [(0, .int .i64 (IntKind.wrap .i64 (1 + y21))), (1, .int .i64 (IntKind.wrap .i64 (8 + y25))), (2, .int .i64 (IntKind.wrap .i64 (24 + y28)))]) (cs := [.int .i64 (IntKind.wrap .i64 (1 + y21)), .int .i64 (IntKind.wrap .i64 (8 + y25)), .int .i64 (IntKind.wrap .i64 (24 + y28))]) places32 zero32 rfl rfl rfl) ?_
    refine plan_one (j := 13) (S2 := 16383) (by decide +kernel) rfl (by decide) rfl ?_
    obtain ⟨q30b, q30o, q30c, q30e, hq30a, hq30b, hq30l, hq30v, h⟩ := h
    refine do_store (vs := [.int .i64 (IntKind.wrap .i64 (1 + y21)), .int .i64 (IntKind.wrap .i64 (8 + y25)), .int .i64 (IntKind.wrap .i64 (24 + y28))]) size32 (pta rfl hq30a) rfl rfl rfl hq30v hq30b hq30l ?_
    refine ⟨_, rfl, ?_⟩
    refine plan_done (by decide +kernel) ?_
    obtain ⟨x31, hx32, h⟩ := h
    exact Go.ret ⟨.inl rfl, _, _, DOk.nil, (resOkV1 Try.results14 (rv_cellA aggr32 rfl hx32)), ⟨_, rfl, h⟩⟩
  · have h := h.2 hc7
    refine Go.condF (btF rfl hc7) ?_
    refine Go.skip ?_
    refine Go.seq ?_
    refine Go.draw mixed ?_
    obtain ⟨a33, ha34, h⟩ := h
    refine plan_pure (i := 0) (d := 19) (S2 := 1) (v := .pointer (some a33)) rfl (by decide +kernel) rfl (q_idxA array27 ha34 rfl rfl) ?_
    obtain ⟨x35, hx36, h⟩ := h
    refine plan_load (i := 1) (d := 20) (S2 := 3) (v := .int .i64 x35) rfl (by decide +kernel) rfl (q_load scalar3 rfl hx36) ?_
    obtain ⟨a37, ha38, h⟩ := h
    refine plan_pure (i := 4) (d := 23) (S2 := 19) (v := .pointer (some a37)) rfl (by decide +kernel) rfl (q_idxA array27 ha38 rfl rfl) ?_
    obtain ⟨x39, hx40, h⟩ := h
    refine plan_load (i := 5) (d := 24) (S2 := 51) (v := .int .i64 x39) rfl (by decide +kernel) rfl (q_load scalar3 rfl hx40) ?_
    obtain ⟨a41, ha42, h⟩ := h
    refine plan_pure (i := 8) (d := 27) (S2 := 307) (v := .pointer (some a41)) rfl (by decide +kernel) rfl (q_idxA array27 ha42 rfl rfl) ?_
    obtain ⟨x43, hx44, h⟩ := h
    refine plan_load (i := 9) (d := 28) (S2 := 819) (v := .int .i64 x43) rfl (by decide +kernel) rfl (q_load scalar3 rfl hx44) ?_
    refine plan_one (j := 2) (S2 := 823) (by decide +kernel) rfl (by decide) rfl ?_
    refine do_call2 body11 (keelsonalike_Round_s _ _ _ _ h) rfl ?_
    rintro _ H45 ⟨y46, rfl, h⟩
    obtain ⟨hr47, h⟩ := h
    obtain ⟨hr48, h⟩ := h
    refine ⟨_, (.inr ⟨⟨_, _, rfl, rfl, q_load scalar3 rfl hr47⟩, _, rfl, .inr ⟨⟨_, _, rfl, rfl, q_load scalar3 rfl hr48⟩, _, rfl, .inl ⟨⟨[2], by decide +kernel, rfl⟩, rfl⟩⟩⟩), ?_⟩
    refine plan_pure (i := 3) (d := 22) (S2 := 831) (v := .int .i64 (IntKind.wrap .i64 (1 + y46))) rfl (by decide +kernel) rfl (q_add rfl rfl) ?_
    refine plan_one (j := 6) (S2 := 895) (by decide +kernel) rfl (by decide) rfl ?_
    refine do_call2 body11 (keelsonalike_Round_s _ _ _ _ h) rfl ?_
    rintro _ H49 ⟨y50, rfl, h⟩
    obtain ⟨hr51, h⟩ := h
    refine ⟨_, (.inr ⟨⟨_, _, rfl, rfl, q_load scalar3 rfl hr51⟩, _, rfl, .inl ⟨⟨[6], by decide +kernel, rfl⟩, rfl⟩⟩), ?_⟩
    refine plan_pure (i := 7) (d := 26) (S2 := 1023) (v := .int .i64 (IntKind.wrap .i64 (8 + y50))) rfl (by decide +kernel) rfl (q_add rfl rfl) ?_
    refine plan_one (j := 10) (S2 := 2047) (by decide +kernel) rfl (by decide) rfl ?_
    refine do_call2 body11 (keelsonalike_Round_s _ _ _ _ h) rfl ?_
    rintro _ H52 ⟨y53, rfl, h⟩
    refine ⟨_, (.inl ⟨⟨[10], by decide +kernel, rfl⟩, rfl⟩), ?_⟩
    refine plan_pure (i := 11) (d := 30) (S2 := 4095) (v := .int .i64 (IntKind.wrap .i64 (24 + y53))) rfl (by decide +kernel) rfl (q_add rfl rfl) ?_
    refine plan_pure (i := 12) (d := 31) (S2 := 8191) (v := .agg ([.int .i64 (IntKind.wrap .i64 (1 + y46)), .int .i64 (IntKind.wrap .i64 (8 + y50)), .int .i64 (IntKind.wrap .i64 (24 + y53))] : List Value).toArray) rfl (by decide +kernel) rfl (q_build (ps := [(0, .int .i64 (IntKind.wrap .i64 (1 + y46))), (1, .int .i64 (IntKind.wrap .i64 (8 + y50))), (2, .int .i64 (IntKind.wrap .i64 (24 + y53)))]) (cs := [.int .i64 (IntKind.wrap .i64 (1 + y46)), .int .i64 (IntKind.wrap .i64 (8 + y50)), .int .i64 (IntKind.wrap .i64 (24 + y53))]) places32 zero32 rfl rfl rfl) ?_
    refine plan_one (j := 13) (S2 := 16383) (by decide +kernel) rfl (by decide) rfl ?_
    obtain ⟨q55b, q55o, q55c, q55e, hq55a, hq55b, hq55l, hq55v, h⟩ := h
    refine do_store (vs := [.int .i64 (IntKind.wrap .i64 (1 + y46)), .int .i64 (IntKind.wrap .i64 (8 + y50)), .int .i64 (IntKind.wrap .i64 (24 + y53))]) size32 (pta rfl hq55a) rfl rfl rfl hq55v hq55b hq55l ?_
    refine ⟨_, rfl, ?_⟩
    refine plan_done (by decide +kernel) ?_
    obtain ⟨x56, hx57, h⟩ := h
    exact Go.ret ⟨.inl rfl, _, _, DOk.nil, (resOkV1 Try.results14 (rv_cellA aggr32 rfl hx57)), ⟨_, rfl, h⟩⟩

/-- keelson.keelsonref11.NewTable -/
def keelsonref11_NewTable (p0 : (Int × Int × Int)) (p1 : Sl) (H : PH) (Q : Option Addr → PH → Prop) : Prop :=
  mNew H (row [.int .i64 p0.1, .int .i64 p0.2.1, .int .i64 p0.2.2] 32) fun a1 H2 =>
  mJoin (fun (s4 : Option Addr) (H6 : PH) =>
  mIf ((p1.len : Int) == 0)
  (Q s4 H6)
  (mLd (.int .i64) H6 (a1.add 1) fun x9 =>
  mIf ((p1.len : Int) != x9)
  (Q none H6)
  (mLoop (fun (s12 : Int) (H15 : PH) (again13 : Int → PH → Prop) =>
  mIf (decide (s12 < (p1.len : Int)))
  (mIdx p1 2 s12 fun a17 =>
  mLd (.int .i64) H15 (a17.add 0) fun x19 =>
  keelsonref1_Within x19 0 2 H15 fun y22 H21 =>
  mJoin (fun (s24 : Bool) (H26 : PH) =>
  mIf s24
  (Q none H26)
  (mNil s4 fun a29 =>
  mLd Sl.v H26 (a29.add 3) fun x31 =>
  mIdx p1 2 s12 fun a33 =>
  mLdR (fun (x : (Int × Int)) => [.int .i64 x.1, .int .i64 x.2]) H26 a33 2 fun x35 =>
  mIdx x31 2 s12 fun a37 =>
  mSt H26 a37 ([.int .i64 x35.1, .int .i64 x35.2]) fun H39 =>
  again13 (IntKind.wrap .i64 (s12 + 1)) H39))
  fun j25 =>
  mIf (!y22)
  (j25 true H21)
  (mIdx p1 2 s12 fun a41 =>
  mLd (.int .i64) H21 (a41.add 1) fun x43 =>
  keelsonref1_Within x43 0 2147483647 H21 fun y46 H45 =>
  j25 (!y46) H45))
  (Q s4 H15))
  0 H6)))
  fun j5 =>
  mLdR (fun (x : (Int × Int × Int)) => [.int .i64 x.1, .int .i64 x.2.1, .int .i64 x.2.2]) H2 a1 3 fun x47 =>
  mLd (.int .i64) H2 (a1.add 1) fun x49 =>
  mLd (.int .i64) H2 (a1.add 1) fun x51 =>
  mBoth (MkOk 16 x49 x49) <|
  mBoth (MkOk 8 x51 x51) <|
  mNewSI H2 (row (zeros (x49 : Int).toNat [.int .i64 0, .int .i64 0]) 40) x49 x49 fun r55 H56 =>
  mSame H56 (a1.add 1) (.int .i64 x51) <|
  mSameA H56 a1 3 ([.int .i64 x47.1, .int .i64 x47.2.1, .int .i64 x47.2.2]) <|
  mNewSI H56 (row (zeros (x51 : Int).toNat [.int .i64 0]) 3) x51 x51 fun r60 H61 =>
  mSameA H61 a1 3 ([.int .i64 x47.1, .int .i64 x47.2.1, .int .i64 x47.2.2]) <|
  mNew H61 (row [.int .i64 x47.1, .int .i64 x47.2.1, .int .i64 x47.2.2, Sl.v r55, Sl.v r60] 64) fun a64 H65 =>
  j5 (some a64) H65

set_option maxRecDepth 20000 in
set_option maxHeartbeats 1000000 in
theorem keelsonref11_NewTable_s (p0 : (Int × Int × Int)) (p1 : Sl) (H : PH) (Q : Option Addr → PH → Prop) (h : keelsonref11_NewTable p0 p1 H Q) :
    CallsH Try.prog 17 #[.agg ([.int .i64 p0.1, .int .i64 p0.2.1, .int .i64 p0.2.2] : List Value).toArray, Sl.v p1] H (fun v H' => ∃ (r0 : Option Addr), v = .pointer r0 ∧ Q r0 H') := by
  unfold keelsonref11_NewTable at h
  refine callsH_of_go Try.func17 rfl Try.ntmps17 (Nat.le_of_ble_eq_true rfl) ?_
  refine Go.seq ?_
  refine Go.region rfl ?_
  refine op_dst rfl rfl (by decide) (do_newBox (cs := [.int .i64 p0.1, .int .i64 p0.2.1, .int .i64 p0.2.2]) rfl rfl fun a1 H2 hb3 => ?_) 
  have h := h a1 H2 hb3
  refine GoOps.q (v := .pointer none) rfl rfl (by decide) (q_assign rfl) ?_
  refine GoOps.nil ?_
  refine Go.seq ?_
  refine join_go 1 (fun ρ (s4 : Option Addr) => ρ 1 = Sl.v p1 ∧ ρ 2 = .pointer (some a1) ∧ ρ 5 = .pointer s4) h ?_ ?_ <;> clear h
  · intro s4 H6 ρ h hE
    obtain ⟨e7_1, e7_2, e7_5⟩ := hE
    refine Go.seq ?_
    refine Go.seq ?_
    refine Go.region rfl ?_
    refine GoOps.q (v := Sl.v p1) rfl rfl (by decide) (q_move e7_1) ?_
    refine GoOps.q (v := .int .i64 (p1.len : Int)) rfl rfl (by decide) (q_len Try.underlying38 rfl (ls1 rfl)) ?_
    refine GoOps.q (v := .bool ((p1.len : Int) == 0)) rfl rfl (by decide) (q_eql rfl rfl) ?_
    refine GoOps.nil ?_
    rcases bor ((p1.len : Int) == 0) with hc8 | hc8
    · have h := h.1 hc8
      refine Go.condT (btT rfl hc8) ?_
      refine Go.seq ?_
      refine Go.region rfl ?_
      refine GoOps.q (v := .pointer s4) rfl rfl (by decide) (q_move e7_5) ?_
      refine GoOps.q (v := .pointer s4) rfl rfl (by decide) (q_assign rfl) ?_
      refine GoOps.nil ?_
      exact Go.ret ⟨.inl rfl, _, _, DOk.nil, (resOk1 Try.results17 rfl), ⟨_, rfl, h⟩⟩
    · have h := h.2 hc8
      refine Go.condF (btF rfl hc8) ?_
      refine Go.skip ?_
      refine Go.seq ?_
      refine Go.seq ?_
      refine Go.region rfl ?_
      refine GoOps.q (v := Sl.v p1) rfl rfl (by decide) (q_move e7_1) ?_
      refine GoOps.q (v := .int .i64 (p1.len : Int)) rfl rfl (by decide) (q_len Try.underlying38 rfl (ls1 rfl)) ?_
      refine GoOps.q (v := .pointer (some (a1.add 1))) rfl rfl (by decide) (q_fieldAddr foff32_1 e7_2) ?_
      obtain ⟨x9, hx10, h⟩ := h
      refine GoOps.q (v := .int .i64 x9) rfl rfl (by decide) (q_load scalar3 rfl hx10) ?_
      refine GoOps.q (v := .bool ((p1.len : Int) != x9)) rfl rfl (by decide) (q_neq rfl rfl) ?_
      refine GoOps.nil ?_
      rcases bor ((p1.len : Int) != x9) with hc11 | hc11
      · have h := h.1 hc11
        refine Go.condT (btT rfl hc11) ?_
        refine Go.seq ?_
        refine Go.region rfl ?_
        refine GoOps.q (v := .pointer none) rfl rfl (by decide) (q_assign rfl) ?_
        refine GoOps.nil ?_
        exact Go.ret ⟨.inl rfl, _, _, DOk.nil, (resOk1 Try.results17 rfl), ⟨_, rfl, h⟩⟩
      · have h := h.2 hc11
        refine Go.condF (btF rfl hc11) ?_
        refine Go.skip ?_
        refine Go.seq ?_
        refine Go.seq ?_
        refine Go.region rfl ?_
        refine GoOps.q (v := .int .i64 0) rfl rfl (by decide) (q_assign rfl) ?_
        refine GoOps.nil ?_
        refine Go.block ?_
        refine loop_go (fun ρ (s12 : Int) => ρ 1 = Sl.v p1 ∧ ρ 5 = .pointer s4 ∧ ρ 6 = .int .i64 s12) h ⟨e7_1, e7_5, rfl⟩ ?_
        clear h
        intro ρ s12 H15 again13 hE h hagain13
        obtain ⟨e14_1, e14_5, e14_6⟩ := hE
        refine Go.seq ?_
        refine Go.seq ?_
        refine Go.region rfl ?_
        refine GoOps.q (v := .int .i64 s12) rfl rfl (by decide) (q_move e14_6) ?_
        refine GoOps.q (v := Sl.v p1) rfl rfl (by decide) (q_move e14_1) ?_
        refine GoOps.q (v := .int .i64 (p1.len : Int)) rfl rfl (by decide) (q_len Try.underlying38 rfl (ls1 rfl)) ?_
        refine GoOps.q (v := .bool (decide (s12 < (p1.len : Int)))) rfl rfl (by decide) (q_lss rfl rfl) ?_
        refine GoOps.nil ?_
        rcases bor (decide (s12 < (p1.len : Int))) with hc16 | hc16
        · have h := h.1 hc16
          refine Go.condT (btT rfl hc16) ?_
          refine Go.skip ?_
          refine Go.seq ?_
          refine Go.block ?_
          refine Go.seq ?_
          refine Go.seq ?_
          refine Go.region rfl ?_
          refine GoOps.q (v := Sl.v p1) rfl rfl (by decide) (q_move e14_1) ?_
          refine GoOps.q (v := .int .i64 s12) rfl rfl (by decide) (q_move e14_6) ?_
          obtain ⟨a17, ha18, h⟩ := h
          refine GoOps.q (v := .pointer (some a17)) rfl rfl (by decide) (q_idx slice38 ha18 rfl rfl) ?_
          refine GoOps.q (v := .pointer (some (a17.add 0))) rfl rfl (by decide) (q_fieldAddr foff40_0 rfl) ?_
          obtain ⟨x19, hx20, h⟩ := h
          refine GoOps.q (v := .int .i64 x19) rfl rfl (by decide) (q_load scalar3 rfl hx20) ?_
          refine call_dst rfl (by decide) body32 (keelsonref1_Within_s _ _ _ _ _ h) rfl ?_
          rintro _ H21 ⟨y22, rfl, h⟩
          refine GoOps.q (v := .bool (!y22)) rfl rfl (by decide) (q_not rfl) ?_
          refine GoOps.q (v := .bool (!y22)) rfl rfl (by decide) (q_move rfl) ?_
          refine join_ops 8 (fun ρ (s24 : Bool) => ρ 1 = Sl.v p1 ∧ ρ 5 = .pointer s4 ∧ ρ 6 = .int .i64 s12 ∧ ρ 46 = .bool s24) h ?_ ?_ <;> clear h
          · intro s24 H26 ρ h hE
            obtain ⟨e27_1, e27_5, e27_6, e27_46⟩ := hE
            refine GoOps.nil ?_
            rcases bor s24 with hc28 | hc28
            · have h := h.1 hc28
              refine Go.condT (btT e27_46 hc28) ?_
              refine Go.seq ?_
              refine Go.region rfl ?_
              refine GoOps.q (v := .pointer none) rfl rfl (by decide) (q_assign rfl) ?_
              refine GoOps.nil ?_
              exact Go.ret ⟨.inl rfl, _, _, DOk.nil, (resOk1 Try.results17 rfl), ⟨_, rfl, h⟩⟩
            · have h := h.2 hc28
              refine Go.condF (btF e27_46 hc28) ?_
              refine Go.skip ?_
              refine Go.draw mixed ?_
              refine plan_pure (i := 0) (d := 47) (S2 := 1) (v := .pointer s4) rfl (by decide +kernel) rfl (q_move e27_5) ?_
              obtain ⟨a29, ha30, h⟩ := h
              refine plan_pure (i := 1) (d := 48) (S2 := 3) (v := .pointer (some a29)) rfl (by decide +kernel) rfl (q_nilCheck (ptn rfl ha30)) ?_
              refine plan_pure (i := 2) (d := 49) (S2 := 7) (v := .pointer (some (a29.add 3))) rfl (by decide +kernel) rfl (q_fieldAddr foff64_1 rfl) ?_
              obtain ⟨x31, hx32, h⟩ := h
              refine plan_load (i := 3) (d := 50) (S2 := 15) (v := Sl.v x31) rfl (by decide +kernel) rfl (q_load scalar38 rfl hx32) ?_
              refine plan_pure (i := 4) (d := 51) (S2 := 31) (v := .int .i64 s12) rfl (by decide +kernel) rfl (q_move e27_6) ?_
              refine plan_pure (i := 5) (d := 52) (S2 := 63) (v := Sl.v p1) rfl (by decide +kernel) rfl (q_move e27_1) ?_
              refine plan_pure (i := 6) (d := 53) (S2 := 127) (v := .int .i64 s12) rfl (by decide +kernel) rfl (q_move e27_6) ?_
              obtain ⟨a33, ha34, h⟩ := h
              refine plan_pure (i := 7) (d := 54) (S2 := 255) (v := .pointer (some a33)) rfl (by decide +kernel) rfl (q_idx slice38 ha34 rfl rfl) ?_
              obtain ⟨x35, hx36, h⟩ := h
              refine plan_load (i := 8) (d := 55) (S2 := 511) (v := .agg ([.int .i64 x35.1, .int .i64 x35.2] : List Value).toArray) rfl (by decide +kernel) rfl (q_loadA aggr40 rfl hx36) ?_
              obtain ⟨a37, ha38, h⟩ := h
              refine plan_pure (i := 9) (d := 56) (S2 := 1023) (v := .pointer (some a37)) rfl (by decide +kernel) rfl (q_idx slice38 ha38 rfl rfl) ?_
              refine plan_one (j := 10) (S2 := 2047) (by decide +kernel) rfl (by decide) rfl ?_
              obtain ⟨q40b, q40o, q40c, q40e, hq40a, hq40b, hq40l, hq40v, h⟩ := h
              refine do_store (vs := [.int .i64 x35.1, .int .i64 x35.2]) size40 (pta rfl hq40a) rfl rfl rfl hq40v hq40b hq40l ?_
              refine ⟨_, (.inl ⟨⟨[10], by decide +kernel, rfl⟩, .inl ⟨⟨[10], by decide +kernel, rfl⟩, rfl⟩⟩), ?_⟩
              refine plan_done (by decide +kernel) ?_
              refine Go.inBlock ?_
              refine Go.region rfl ?_
              refine GoOps.q (v := .int .i64 s12) rfl rfl (by decide) (q_move e27_6) ?_
              refine GoOps.q (v := .int .i64 (IntKind.wrap .i64 (s12 + 1))) rfl rfl (by decide) (q_add rfl rfl) ?_
              refine GoOps.q (v := .int .i64 (IntKind.wrap .i64 (s12 + 1))) rfl rfl (by decide) (q_assign rfl) ?_
              refine GoOps.nil ?_
              exact hagain13 _ _ _ h ⟨e27_1, e27_5, rfl⟩
          · intro j25 hj25 h
            rcases bor (!y22) with hc23 | hc23
            · have h := h.1 hc23
              refine no_dst (want_no rfl rfl rfl hc23) rfl (by decide) ?_
              refine no_dst (want_no rfl rfl rfl hc23) rfl (by decide) ?_
              refine no_dst (want_no rfl rfl rfl hc23) rfl (by decide) ?_
              refine no_dst (want_no rfl rfl rfl hc23) rfl (by decide) ?_
              refine no_dst (want_no rfl rfl rfl hc23) rfl (by decide) ?_
              refine no_dst (want_no rfl rfl rfl hc23) rfl (by decide) ?_
              refine no_dst (want_no rfl rfl rfl hc23) rfl (by decide) ?_
              refine GoOps.q (v := .bool true) rfl rfl (by decide) (q_pickT (btT rfl hc23) rfl) ?_
              exact hj25 true _ _ h (by exact ⟨e14_1, e14_5, e14_6, rfl⟩)
            · have h := h.2 hc23
              refine GoOps.q (v := Sl.v p1) (want_yes rfl rfl rfl hc23) rfl (by decide) (q_move e14_1) ?_
              refine GoOps.q (v := .int .i64 s12) (want_yes rfl rfl rfl hc23) rfl (by decide) (q_move e14_6) ?_
              obtain ⟨a41, ha42, h⟩ := h
              refine GoOps.q (v := .pointer (some a41)) (want_yes rfl rfl rfl hc23) rfl (by decide) (q_idx slice38 ha42 rfl rfl) ?_
              refine GoOps.q (v := .pointer (some (a41.add 1))) (want_yes rfl rfl rfl hc23) rfl (by decide) (q_fieldAddr foff40_1 rfl) ?_
              obtain ⟨x43, hx44, h⟩ := h
              refine GoOps.q (v := .int .i64 x43) (want_yes rfl rfl rfl hc23) rfl (by decide) (q_load scalar3 rfl hx44) ?_
              refine call_dst (want_yes rfl rfl rfl hc23) (by decide) body32 (keelsonref1_Within_s _ _ _ _ _ h) rfl ?_
              rintro _ H45 ⟨y46, rfl, h⟩
              refine GoOps.q (v := .bool (!y46)) (want_yes rfl rfl rfl hc23) rfl (by decide) (q_not rfl) ?_
              refine GoOps.q (v := .bool (!y46)) rfl rfl (by decide) (q_pickF (btF rfl hc23) rfl) ?_
              exact hj25 (!y46) _ _ h (by exact ⟨e14_1, e14_5, e14_6, rfl⟩)
        · have h := h.2 hc16
          refine Go.condF (btF rfl hc16) ?_
          refine Go.exit rfl ?_
          refine Go.seq ?_
          refine Go.region rfl ?_
          refine GoOps.q (v := .pointer s4) rfl rfl (by decide) (q_move e14_5) ?_
          refine GoOps.q (v := .pointer s4) rfl rfl (by decide) (q_assign rfl) ?_
          refine GoOps.nil ?_
          exact Go.ret ⟨.inl rfl, _, _, DOk.nil, (resOk1 Try.results17 rfl), ⟨_, rfl, h⟩⟩
  · intro j5 hj5 h
    refine Go.draw mixed ?_
    obtain ⟨x47, hx48, h⟩ := h
    refine plan_load (i := 0) (d := 7) (S2 := 1) (v := .agg ([.int .i64 x47.1, .int .i64 x47.2.1, .int .i64 x47.2.2] : List Value).toArray) rfl (by decide +kernel) rfl (q_loadA aggr32 rfl hx48) ?_
    refine plan_pure (i := 1) (d := 8) (S2 := 3) (v := .pointer (some (a1.add 1))) rfl (by decide +kernel) rfl (q_fieldAddr foff32_1 rfl) ?_
    obtain ⟨x49, hx50, h⟩ := h
    refine plan_load (i := 2) (d := 9) (S2 := 7) (v := .int .i64 x49) rfl (by decide +kernel) rfl (q_load scalar3 rfl hx50) ?_
    refine plan_pure (i := 4) (d := 11) (S2 := 23) (v := .pointer (some (a1.add 1))) rfl (by decide +kernel) rfl (q_fieldAddr foff32_1 rfl) ?_
    obtain ⟨x51, hx52, h⟩ := h
    refine plan_load (i := 5) (d := 12) (S2 := 55) (v := .int .i64 x51) rfl (by decide +kernel) rfl (q_load scalar3 rfl hx52) ?_
    obtain ⟨hm53, h⟩ := h
    obtain ⟨hm54, h⟩ := h
    refine plan_step (R := [3, 6]) (by decide +kernel) ⟨?_, ?_, trivial⟩
    · refine pstep_yes (S2 := 63) rfl (by decide +kernel) (by decide) rfl ?_
      refine do_mk (zs := [.int .i64 0, .int .i64 0]) slice38 bytes40 (by decide) zero40 rfl rfl (by decide) rfl rfl hm53 fun r55 H56 hb57 => ?_
      have h := h r55 H56 hb57
      obtain ⟨hr58, h⟩ := h
      obtain ⟨hr59, h⟩ := h
      refine ⟨_, (.inr ⟨⟨_, _, rfl, rfl, q_load scalar3 rfl hr58⟩, _, rfl, .inl ⟨⟨[3], by decide +kernel, rfl⟩, .inr ⟨⟨_, _, rfl, rfl, q_loadA aggr32 rfl hr59⟩, _, rfl, rfl⟩⟩⟩), ?_⟩
      refine plan_one (j := 6) (S2 := 127) (by decide +kernel) rfl (by decide) rfl ?_
      refine do_mk (zs := [.int .i64 0]) slice30 bytes3 (by decide) zero3 rfl rfl (by decide) rfl rfl hm54 fun r60 H61 hb62 => ?_
      have h := h r60 H61 hb62
      obtain ⟨hr63, h⟩ := h
      refine ⟨_, (.inl ⟨⟨[6], by decide +kernel, rfl⟩, .inr ⟨⟨_, _, rfl, rfl, q_loadA aggr32 rfl hr63⟩, _, rfl, rfl⟩⟩), ?_⟩
      refine plan_pure (i := 7) (d := 14) (S2 := 255) (v := .agg ([.int .i64 x47.1, .int .i64 x47.2.1, .int .i64 x47.2.2, Sl.v r55, Sl.v r60] : List Value).toArray) rfl (by decide +kernel) rfl (q_build (ps := [(0, .agg ([.int .i64 x47.1, .int .i64 x47.2.1, .int .i64 x47.2.2] : List Value).toArray), (1, Sl.v r55), (2, Sl.v r60)]) (cs := [.int .i64 x47.1, .int .i64 x47.2.1, .int .i64 x47.2.2, Sl.v r55, Sl.v r60]) places64 zero64 rfl rfl rfl) ?_
      refine plan_one (j := 8) (S2 := 511) (by decide +kernel) rfl (by decide) rfl ?_
      refine do_newBox (cs := [.int .i64 x47.1, .int .i64 x47.2.1, .int .i64 x47.2.2, Sl.v r55, Sl.v r60]) rfl rfl fun a64 H65 hb66 => ?_
      have h := h a64 H65 hb66
      refine ⟨_, (.inl ⟨⟨[7, 8], by decide +kernel, rfl⟩, rfl⟩), ?_⟩
      refine plan_pure (i := 9) (d := 5) (S2 := 1023) (v := .pointer (some a64)) rfl (by decide +kernel) rfl (q_assign rfl) ?_
      refine plan_done (by decide +kernel) ?_
      exact hj5 _ _ _ h ⟨rfl, rfl, rfl⟩
    · refine pstep_yes (S2 := 119) rfl (by decide +kernel) (by decide) rfl ?_
      refine do_mkT (zs := [.int .i64 0]) slice30 bytes3 (by decide) zero3 rfl rfl (by decide) rfl rfl hm54 fun b68 r67 hHb68 hTb68 hrb68 => ?_
      refine ⟨_, (.inl ⟨⟨[6], by decide +kernel, rfl⟩, .inr ⟨⟨_, _, rfl, rfl, q_load scalar3 rfl hx50⟩, _, rfl, .inr ⟨⟨_, _, rfl, rfl, q_loadA aggr32 rfl hx48⟩, _, rfl, rfl⟩⟩⟩), ?_⟩
      refine plan_one (j := 3) (S2 := 127) (by decide +kernel) rfl (by decide) rfl ?_
      refine do_mk (zs := [.int .i64 0, .int .i64 0]) slice38 bytes40 (by decide) zero40 rfl rfl (by decide) rfl rfl hm53 fun r69 H70 hb71 => ?_
      have h := h r69 H70 hb71
      obtain ⟨hr72, h⟩ := h
      obtain ⟨hr73, h⟩ := h
      refine ⟨_, (.inl ⟨⟨[3], by decide +kernel, rfl⟩, .inr ⟨⟨_, _, rfl, rfl, q_loadA aggr32 rfl hr73⟩, _, rfl, rfl⟩⟩), ?_⟩
      refine plan_commit hTb68 fun hh75 => ?_
      have h := h r67 _ ⟨b68, hh75, hrb68, rfl⟩
      obtain ⟨hr76, h⟩ := h
      refine plan_pure (i := 7) (d := 14) (S2 := 255) (v := .agg ([.int .i64 x47.1, .int .i64 x47.2.1, .int .i64 x47.2.2, Sl.v r69, Sl.v r67] : List Value).toArray) rfl (by decide +kernel) rfl (q_build (ps := [(0, .agg ([.int .i64 x47.1, .int .i64 x47.2.1, .int .i64 x47.2.2] : List Value).toArray), (1, Sl.v r69), (2, Sl.v r67)]) (cs := [.int .i64 x47.1, .int .i64 x47.2.1, .int .i64 x47.2.2, Sl.v r69, Sl.v r67]) places64 zero64 rfl rfl rfl) ?_
      refine plan_one (j := 8) (S2 := 511) (by decide +kernel) rfl (by decide) rfl ?_
      refine do_newBox (cs := [.int .i64 x47.1, .int .i64 x47.2.1, .int .i64 x47.2.2, Sl.v r69, Sl.v r67]) rfl rfl fun a77 H78 hb79 => ?_
      have h := h a77 H78 hb79
      refine ⟨_, (.inl ⟨⟨[7, 8], by decide +kernel, rfl⟩, rfl⟩), ?_⟩
      refine plan_pure (i := 9) (d := 5) (S2 := 1023) (v := .pointer (some a77)) rfl (by decide +kernel) rfl (q_assign rfl) ?_
      refine plan_done (by decide +kernel) ?_
      exact hj5 _ _ _ h ⟨rfl, rfl, rfl⟩

/-- keelson.keelsonref1.Up -/
def keelsonref1_Up (p0 : Int) (p1 : Int) (H : PH) (Q : Int → PH → Prop) : Prop :=
  mNe p1 <|
  Q (IntKind.wrap .i64 (Int.tdiv (IntKind.wrap .i64 ((IntKind.wrap .i64 (p0 + p1)) - 1)) p1)) H

set_option maxRecDepth 20000 in
set_option maxHeartbeats 1000000 in
theorem keelsonref1_Up_s (p0 : Int) (p1 : Int) (H : PH) (Q : Int → PH → Prop) (h : keelsonref1_Up p0 p1 H Q) :
    CallsH Try.prog 54 #[.int .i64 p0, .int .i64 p1] H (fun v H' => ∃ (r0 : Int), v = .int .i64 r0 ∧ Q r0 H') := by
  unfold keelsonref1_Up at h
  refine callsH_of_go Try.func54 rfl Try.ntmps54 (Nat.le_of_ble_eq_true rfl) ?_
  refine Go.seq ?_
  refine Go.region rfl ?_
  refine GoOps.q (v := .int .i64 0) rfl rfl (by decide) (q_assign rfl) ?_
  refine GoOps.nil ?_
  refine Go.seq ?_
  refine Go.region rfl ?_
  refine GoOps.q (v := .int .i64 p0) rfl rfl (by decide) (q_move rfl) ?_
  refine GoOps.q (v := .int .i64 p1) rfl rfl (by decide) (q_move rfl) ?_
  refine GoOps.q (v := .int .i64 (IntKind.wrap .i64 (p0 + p1))) rfl rfl (by decide) (q_add rfl rfl) ?_
  refine GoOps.q (v := .int .i64 (IntKind.wrap .i64 ((IntKind.wrap .i64 (p0 + p1)) - 1))) rfl rfl (by decide) (q_sub rfl rfl) ?_
  refine GoOps.q (v := .int .i64 p1) rfl rfl (by decide) (q_move rfl) ?_
  obtain ⟨hn1, h⟩ := h
  refine GoOps.q (v := .int .i64 (IntKind.wrap .i64 (Int.tdiv (IntKind.wrap .i64 ((IntKind.wrap .i64 (p0 + p1)) - 1)) p1))) rfl rfl (by decide) (q_quo hn1 rfl rfl) ?_
  refine GoOps.q (v := .int .i64 (IntKind.wrap .i64 (Int.tdiv (IntKind.wrap .i64 ((IntKind.wrap .i64 (p0 + p1)) - 1)) p1))) rfl rfl (by decide) (q_assign rfl) ?_
  refine GoOps.nil ?_
  exact Go.ret ⟨.inl rfl, _, _, DOk.nil, (resOk1 Try.results54 rfl), ⟨_, rfl, h⟩⟩

/-- keelson.keelsonref1.RegionLen -/
def keelsonref1_RegionLen (p0 : (Int × Int × Int)) (H : PH) (Q : Int → PH → Prop) : Prop :=
  mNew H (row [.int .i64 p0.1, .int .i64 p0.2.1, .int .i64 p0.2.2] 32) fun a1 H2 =>
  mLd (.int .i64) H2 (a1.add 1) fun x4 =>
  keelsonref1_Up (IntKind.wrap .i64 (43 + (IntKind.wrap .i64 (5 * x4)))) 64 H2 fun y7 H6 =>
  Q y7 H6

set_option maxRecDepth 20000 in
set_option maxHeartbeats 1000000 in
theorem keelsonref1_RegionLen_s (p0 : (Int × Int × Int)) (H : PH) (Q : Int → PH → Prop) (h : keelsonref1_RegionLen p0 H Q) :
    CallsH Try.prog 41 #[.agg ([.int .i64 p0.1, .int .i64 p0.2.1, .int .i64 p0.2.2] : List Value).toArray] H (fun v H' => ∃ (r0 : Int), v = .int .i64 r0 ∧ Q r0 H') := by
  unfold keelsonref1_RegionLen at h
  refine callsH_of_go Try.func41 rfl Try.ntmps41 (Nat.le_of_ble_eq_true rfl) ?_
  refine Go.seq ?_
  refine Go.region rfl ?_
  refine op_dst rfl rfl (by decide) (do_newBox (cs := [.int .i64 p0.1, .int .i64 p0.2.1, .int .i64 p0.2.2]) rfl rfl fun a1 H2 hb3 => ?_) 
  have h := h a1 H2 hb3
  refine GoOps.q (v := .int .i64 0) rfl rfl (by decide) (q_assign rfl) ?_
  refine GoOps.nil ?_
  refine Go.seq ?_
  refine Go.region rfl ?_
  refine GoOps.q (v := .pointer (some (a1.add 1))) rfl rfl (by decide) (q_fieldAddr foff32_1 rfl) ?_
  obtain ⟨x4, hx5, h⟩ := h
  refine GoOps.q (v := .int .i64 x4) rfl rfl (by decide) (q_load scalar3 rfl hx5) ?_
  refine GoOps.q (v := .int .i64 (IntKind.wrap .i64 (5 * x4))) rfl rfl (by decide) (q_mul rfl rfl) ?_
  refine GoOps.q (v := .int .i64 (IntKind.wrap .i64 (43 + (IntKind.wrap .i64 (5 * x4))))) rfl rfl (by decide) (q_add rfl rfl) ?_
  refine call_dst rfl (by decide) body54 (keelsonref1_Up_s _ _ _ _ h) rfl ?_
  rintro _ H6 ⟨y7, rfl, h⟩
  refine GoOps.q (v := .int .i64 y7) rfl rfl (by decide) (q_assign rfl) ?_
  refine GoOps.nil ?_
  exact Go.ret ⟨.inl rfl, _, _, DOk.nil, (resOk1 Try.results41 rfl), ⟨_, rfl, h⟩⟩

/-- keelson.keelsonref1.Pages -/
def keelsonref1_Pages (p0 : (Int × Int × Int)) (H : PH) (Q : Int → PH → Prop) : Prop :=
  mNew H (row [.int .i64 p0.1, .int .i64 p0.2.1, .int .i64 p0.2.2] 32) fun a1 H2 =>
  mLd (.int .i64) H2 (a1.add 0) fun x4 =>
  keelsonref1_Up x4 15 H2 fun y7 H6 =>
  Q y7 H6

set_option maxRecDepth 20000 in
set_option maxHeartbeats 1000000 in
theorem keelsonref1_Pages_s (p0 : (Int × Int × Int)) (H : PH) (Q : Int → PH → Prop) (h : keelsonref1_Pages p0 H Q) :
    CallsH Try.prog 42 #[.agg ([.int .i64 p0.1, .int .i64 p0.2.1, .int .i64 p0.2.2] : List Value).toArray] H (fun v H' => ∃ (r0 : Int), v = .int .i64 r0 ∧ Q r0 H') := by
  unfold keelsonref1_Pages at h
  refine callsH_of_go Try.func42 rfl Try.ntmps42 (Nat.le_of_ble_eq_true rfl) ?_
  refine Go.seq ?_
  refine Go.region rfl ?_
  refine op_dst rfl rfl (by decide) (do_newBox (cs := [.int .i64 p0.1, .int .i64 p0.2.1, .int .i64 p0.2.2]) rfl rfl fun a1 H2 hb3 => ?_) 
  have h := h a1 H2 hb3
  refine GoOps.q (v := .int .i64 0) rfl rfl (by decide) (q_assign rfl) ?_
  refine GoOps.nil ?_
  refine Go.seq ?_
  refine Go.region rfl ?_
  refine GoOps.q (v := .pointer (some (a1.add 0))) rfl rfl (by decide) (q_fieldAddr foff32_0 rfl) ?_
  obtain ⟨x4, hx5, h⟩ := h
  refine GoOps.q (v := .int .i64 x4) rfl rfl (by decide) (q_load scalar3 rfl hx5) ?_
  refine call_dst rfl (by decide) body54 (keelsonref1_Up_s _ _ _ _ h) rfl ?_
  rintro _ H6 ⟨y7, rfl, h⟩
  refine GoOps.q (v := .int .i64 y7) rfl rfl (by decide) (q_assign rfl) ?_
  refine GoOps.nil ?_
  exact Go.ret ⟨.inl rfl, _, _, DOk.nil, (resOk1 Try.results42 rfl), ⟨_, rfl, h⟩⟩

/-- keelson.keelsonref1.SegAt -/
def keelsonref1_SegAt (p0 : (Int × Int × Int)) (p1 : Int) (H : PH) (Q : Int → PH → Prop) : Prop :=
  mNew H (row [.int .i64 p0.1, .int .i64 p0.2.1, .int .i64 p0.2.2] 32) fun a1 H2 =>
  mLd (.int .i64) H2 (a1.add 1) fun x4 =>
  keelsonref1_Within p1 0 (IntKind.wrap .i64 (x4 - 1)) H2 fun y7 H6 =>
  mIf (!y7)
  (Q (-1) H6)
  (mLdR (fun (x : (Int × Int × Int)) => [.int .i64 x.1, .int .i64 x.2.1, .int .i64 x.2.2]) H6 a1 3 fun x9 =>
  mLdR (fun (x : (Int × Int × Int)) => [.int .i64 x.1, .int .i64 x.2.1, .int .i64 x.2.2]) H6 a1 3 fun x11 =>
  mLd (.int .i64) H6 (a1.add 2) fun x13 =>
  keelsonref1_RegionLen (x9.1, x9.2.1, x9.2.2) H6 fun y16 H15 =>
  mSame H15 (a1.add 2) (.int .i64 x13) <|
  mSameA H15 a1 3 ([.int .i64 x11.1, .int .i64 x11.2.1, .int .i64 x11.2.2]) <|
  keelsonref1_Pages (x11.1, x11.2.1, x11.2.2) H15 fun y20 H19 =>
  mSame H19 (a1.add 2) (.int .i64 x13) <|
  Q (IntKind.wrap .i64 ((IntKind.wrap .i64 ((IntKind.wrap .i64 (2 + (IntKind.wrap .i64 (2 * y16)))) + (IntKind.wrap .i64 (4 * y20)))) + (IntKind.wrap .i64 (p1 * x13)))) H19)

set_option maxRecDepth 20000 in
set_option maxHeartbeats 1000000 in
theorem keelsonref1_SegAt_s (p0 : (Int × Int × Int)) (p1 : Int) (H : PH) (Q : Int → PH → Prop) (h : keelsonref1_SegAt p0 p1 H Q) :
    CallsH Try.prog 21 #[.agg ([.int .i64 p0.1, .int .i64 p0.2.1, .int .i64 p0.2.2] : List Value).toArray, .int .i64 p1] H (fun v H' => ∃ (r0 : Int), v = .int .i64 r0 ∧ Q r0 H') := by
  unfold keelsonref1_SegAt at h
  refine callsH_of_go Try.func21 rfl Try.ntmps21 (Nat.le_of_ble_eq_true rfl) ?_
  refine Go.seq ?_
  refine Go.region rfl ?_
  refine op_dst rfl rfl (by decide) (do_newBox (cs := [.int .i64 p0.1, .int .i64 p0.2.1, .int .i64 p0.2.2]) rfl rfl fun a1 H2 hb3 => ?_) 
  have h := h a1 H2 hb3
  refine GoOps.q (v := .int .i64 0) rfl rfl (by decide) (q_assign rfl) ?_
  refine GoOps.nil ?_
  refine Go.seq ?_
  refine Go.seq ?_
  refine Go.region rfl ?_
  refine GoOps.q (v := .int .i64 p1) rfl rfl (by decide) (q_move rfl) ?_
  refine GoOps.q (v := .pointer (some (a1.add 1))) rfl rfl (by decide) (q_fieldAddr foff32_1 rfl) ?_
  obtain ⟨x4, hx5, h⟩ := h
  refine GoOps.q (v := .int .i64 x4) rfl rfl (by decide) (q_load scalar3 rfl hx5) ?_
  refine GoOps.q (v := .int .i64 (IntKind.wrap .i64 (x4 - 1))) rfl rfl (by decide) (q_sub rfl rfl) ?_
  refine call_dst rfl (by decide) body32 (keelsonref1_Within_s _ _ _ _ _ h) rfl ?_
  rintro _ H6 ⟨y7, rfl, h⟩
  refine GoOps.q (v := .bool (!y7)) rfl rfl (by decide) (q_not rfl) ?_
  refine GoOps.nil ?_
  rcases bor (!y7) with hc8 | hc8
  · have h := h.1 hc8
    refine Go.condT (btT rfl hc8) ?_
    refine Go.seq ?_
    refine Go.region rfl ?_
    refine GoOps.q (v := .int .i64 (-1)) rfl rfl (by decide) (q_assign rfl) ?_
    refine GoOps.nil ?_
    exact Go.ret ⟨.inl rfl, _, _, DOk.nil, (resOk1 Try.results21 rfl), ⟨_, rfl, h⟩⟩
  · have h := h.2 hc8
    refine Go.condF (btF rfl hc8) ?_
    refine Go.skip ?_
    refine Go.seq ?_
    refine Go.draw mixed ?_
    obtain ⟨x9, hx10, h⟩ := h
    refine plan_load (i := 0) (d := 11) (S2 := 1) (v := .agg ([.int .i64 x9.1, .int .i64 x9.2.1, .int .i64 x9.2.2] : List Value).toArray) rfl (by decide +kernel) rfl (q_loadA aggr32 rfl hx10) ?_
    obtain ⟨x11, hx12, h⟩ := h
    refine plan_load (i := 4) (d := 15) (S2 := 17) (v := .agg ([.int .i64 x11.1, .int .i64 x11.2.1, .int .i64 x11.2.2] : List Value).toArray) rfl (by decide +kernel) rfl (q_loadA aggr32 rfl hx12) ?_
    refine plan_pure (i := 8) (d := 19) (S2 := 273) (v := .int .i64 p1) rfl (by decide +kernel) rfl (q_move rfl) ?_
    refine plan_pure (i := 9) (d := 20) (S2 := 785) (v := .pointer (some (a1.add 2))) rfl (by decide +kernel) rfl (q_fieldAddr foff32_2 rfl) ?_
    obtain ⟨x13, hx14, h⟩ := h
    refine plan_load (i := 10) (d := 21) (S2 := 1809) (v := .int .i64 x13) rfl (by decide +kernel) rfl (q_load scalar3 rfl hx14) ?_
    refine plan_pure (i := 11) (d := 22) (S2 := 3857) (v := .int .i64 (IntKind.wrap .i64 (p1 * x13))) rfl (by decide +kernel) rfl (q_mul rfl rfl) ?_
    refine plan_one (j := 1) (S2 := 3859) (by decide +kernel) rfl (by decide) rfl ?_
    refine do_call2 body41 (keelsonref1_RegionLen_s _ _ _ h) rfl ?_
    rintro _ H15 ⟨y16, rfl, h⟩
    obtain ⟨hr17, h⟩ := h
    obtain ⟨hr18, h⟩ := h
    refine ⟨_, (.inr ⟨⟨_, _, rfl, rfl, q_load scalar3 rfl hr17⟩, _, rfl, .inr ⟨⟨_, _, rfl, rfl, q_loadA aggr32 rfl hr18⟩, _, rfl, .inl ⟨⟨[1], by decide +kernel, rfl⟩, rfl⟩⟩⟩), ?_⟩
    refine plan_pure (i := 2) (d := 13) (S2 := 3863) (v := .int .i64 (IntKind.wrap .i64 (2 * y16))) rfl (by decide +kernel) rfl (q_mul rfl rfl) ?_
    refine plan_pure (i := 3) (d := 14) (S2 := 3871) (v := .int .i64 (IntKind.wrap .i64 (2 + (IntKind.wrap .i64 (2 * y16))))) rfl (by decide +kernel) rfl (q_add rfl rfl) ?_
    refine plan_one (j := 5) (S2 := 3903) (by decide +kernel) rfl (by decide) rfl ?_
    refine do_call2 body42 (keelsonref1_Pages_s _ _ _ h) rfl ?_
    rintro _ H19 ⟨y20, rfl, h⟩
    obtain ⟨hr21, h⟩ := h
    refine ⟨_, (.inr ⟨⟨_, _, rfl, rfl, q_load scalar3 rfl hr21⟩, _, rfl, .inl ⟨⟨[5], by decide +kernel, rfl⟩, rfl⟩⟩), ?_⟩
    refine plan_pure (i := 6) (d := 17) (S2 := 3967) (v := .int .i64 (IntKind.wrap .i64 (4 * y20))) rfl (by decide +kernel) rfl (q_mul rfl rfl) ?_
    refine plan_pure (i := 7) (d := 18) (S2 := 4095) (v := .int .i64 (IntKind.wrap .i64 ((IntKind.wrap .i64 (2 + (IntKind.wrap .i64 (2 * y16)))) + (IntKind.wrap .i64 (4 * y20))))) rfl (by decide +kernel) rfl (q_add rfl rfl) ?_
    refine plan_pure (i := 12) (d := 23) (S2 := 8191) (v := .int .i64 (IntKind.wrap .i64 ((IntKind.wrap .i64 ((IntKind.wrap .i64 (2 + (IntKind.wrap .i64 (2 * y16)))) + (IntKind.wrap .i64 (4 * y20)))) + (IntKind.wrap .i64 (p1 * x13))))) rfl (by decide +kernel) rfl (q_add rfl rfl) ?_
    refine plan_pure (i := 13) (d := 4) (S2 := 16383) (v := .int .i64 (IntKind.wrap .i64 ((IntKind.wrap .i64 ((IntKind.wrap .i64 (2 + (IntKind.wrap .i64 (2 * y16)))) + (IntKind.wrap .i64 (4 * y20)))) + (IntKind.wrap .i64 (p1 * x13))))) rfl (by decide +kernel) rfl (q_assign rfl) ?_
    refine plan_done (by decide +kernel) ?_
    exact Go.ret ⟨.inl rfl, _, _, DOk.nil, (resOk1 Try.results21 rfl), ⟨_, rfl, h⟩⟩

/-- keelson.keelsonref1.Where -/
def keelsonref1_Where (p0 : (Int × Int × Int)) (p1 : Int) (H : PH) (Q : Int → Int → Bool → PH → Prop) : Prop :=
  mNew H (row [.int .i64 p0.1, .int .i64 p0.2.1, .int .i64 p0.2.2] 32) fun a1 H2 =>
  mLdR (fun (x : (Int × Int × Int)) => [.int .i64 x.1, .int .i64 x.2.1, .int .i64 x.2.2]) H2 a1 3 fun x4 =>
  keelsonref1_SegAt (x4.1, x4.2.1, x4.2.2) 0 H2 fun y7 H6 =>
  mLdR (fun (x : (Int × Int × Int)) => [.int .i64 x.1, .int .i64 x.2.1, .int .i64 x.2.2]) H6 a1 3 fun x8 =>
  keelsonref1_SegAt (x8.1, x8.2.1, x8.2.2) 0 H6 fun y11 H10 =>
  mJoin (fun (s13 : Bool) (H15 : PH) =>
  mIf s13
  (Q 0 0 false H15)
  (mLd (.int .i64) H15 (a1.add 2) fun x18 =>
  mNe x18 <|
  mLd (.int .i64) H15 (a1.add 2) fun x21 =>
  mNe x21 <|
  Q (IntKind.wrap .i64 (Int.tdiv (IntKind.wrap .i64 (p1 - y7)) x18)) (Int.tmod (IntKind.wrap .i64 (p1 - y7)) x21) true H15))
  fun j14 =>
  mIf (decide (p1 < y11))
  (j14 true H10)
  (mLd (.int .i64) H10 (a1.add 1) fun x24 =>
  mLd (.int .i64) H10 (a1.add 2) fun x26 =>
  j14 (decide ((IntKind.wrap .i64 (x24 * x26)) ≤ (IntKind.wrap .i64 (p1 - y7)))) H10)

set_option maxRecDepth 20000 in
set_option maxHeartbeats 1000000 in
theorem keelsonref1_Where_s (p0 : (Int × Int × Int)) (p1 : Int) (H : PH) (Q : Int → Int → Bool → PH → Prop) (h : keelsonref1_Where p0 p1 H Q) :
    CallsH Try.prog 40 #[.agg ([.int .i64 p0.1, .int .i64 p0.2.1, .int .i64 p0.2.2] : List Value).toArray, .int .i64 p1] H (fun v H' => ∃ (r0 : Int) (r1 : Int) (r2 : Bool), v = .tuple #[.int .i64 r0, .int .i64 r1, .bool r2] ∧ Q r0 r1 r2 H') := by
  unfold keelsonref1_Where at h
  refine callsH_of_go Try.func40 rfl Try.ntmps40 (Nat.le_of_ble_eq_true rfl) ?_
  refine Go.seq ?_
  refine Go.region rfl ?_
  refine op_dst rfl rfl (by decide) (do_newBox (cs := [.int .i64 p0.1, .int .i64 p0.2.1, .int .i64 p0.2.2]) rfl rfl fun a1 H2 hb3 => ?_) 
  have h := h a1 H2 hb3
  refine GoOps.q (v := .int .i64 0) rfl rfl (by decide) (q_assign rfl) ?_
  refine GoOps.q (v := .int .i64 0) rfl rfl (by decide) (q_assign rfl) ?_
  refine GoOps.q (v := .bool false) rfl rfl (by decide) (q_assign rfl) ?_
  refine GoOps.nil ?_
  refine Go.seq ?_
  refine Go.region rfl ?_
  refine GoOps.q (v := .int .i64 p1) rfl rfl (by decide) (q_move rfl) ?_
  obtain ⟨x4, hx5, h⟩ := h
  refine GoOps.q (v := .agg ([.int .i64 x4.1, .int .i64 x4.2.1, .int .i64 x4.2.2] : List Value).toArray) rfl rfl (by decide) (q_loadA aggr32 rfl hx5) ?_
  refine call_dst rfl (by decide) body21 (keelsonref1_SegAt_s _ _ _ _ h) rfl ?_
  rintro _ H6 ⟨y7, rfl, h⟩
  refine GoOps.q (v := .int .i64 (IntKind.wrap .i64 (p1 - y7))) rfl rfl (by decide) (q_sub rfl rfl) ?_
  refine GoOps.q (v := .int .i64 (IntKind.wrap .i64 (p1 - y7))) rfl rfl (by decide) (q_assign rfl) ?_
  refine GoOps.nil ?_
  refine Go.seq ?_
  refine Go.seq ?_
  refine Go.region rfl ?_
  refine GoOps.q (v := .int .i64 p1) rfl rfl (by decide) (q_move rfl) ?_
  obtain ⟨x8, hx9, h⟩ := h
  refine GoOps.q (v := .agg ([.int .i64 x8.1, .int .i64 x8.2.1, .int .i64 x8.2.2] : List Value).toArray) rfl rfl (by decide) (q_loadA aggr32 rfl hx9) ?_
  refine call_dst rfl (by decide) body21 (keelsonref1_SegAt_s _ _ _ _ h) rfl ?_
  rintro _ H10 ⟨y11, rfl, h⟩
  refine GoOps.q (v := .bool (decide (p1 < y11))) rfl rfl (by decide) (q_lss rfl rfl) ?_
  refine GoOps.q (v := .bool (decide (p1 < y11))) rfl rfl (by decide) (q_move rfl) ?_
  refine join_ops 8 (fun ρ (s13 : Bool) => ρ 2 = .pointer (some a1) ∧ ρ 7 = .int .i64 (IntKind.wrap .i64 (p1 - y7)) ∧ ρ 24 = .bool s13) h ?_ ?_ <;> clear h
  · intro s13 H15 ρ h hE
    obtain ⟨e16_2, e16_7, e16_24⟩ := hE
    refine GoOps.nil ?_
    rcases bor s13 with hc17 | hc17
    · have h := h.1 hc17
      refine Go.condT (btT e16_24 hc17) ?_
      refine Go.seq ?_
      refine Go.region rfl ?_
      refine GoOps.q (v := .int .i64 0) rfl rfl (by decide) (q_assign rfl) ?_
      refine GoOps.q (v := .int .i64 0) rfl rfl (by decide) (q_assign rfl) ?_
      refine GoOps.q (v := .bool false) rfl rfl (by decide) (q_assign rfl) ?_
      refine GoOps.nil ?_
      exact Go.ret ⟨.inl rfl, _, _, DOk.nil, (resOk3 Try.results40 rfl rfl rfl), ⟨_, _, _, rfl, h⟩⟩
    · have h := h.2 hc17
      refine Go.condF (btF e16_24 hc17) ?_
      refine Go.skip ?_
      refine Go.seq ?_
      refine Go.draw mixed ?_
      refine plan_pure (i := 0) (d := 25) (S2 := 1) (v := .int .i64 (IntKind.wrap .i64 (p1 - y7))) rfl (by decide +kernel) rfl (q_move e16_7) ?_
      refine plan_pure (i := 1) (d := 26) (S2 := 3) (v := .pointer (some (a1.add 2))) rfl (by decide +kernel) rfl (q_fieldAddr foff32_2 e16_2) ?_
      obtain ⟨x18, hx19, h⟩ := h
      refine plan_load (i := 2) (d := 27) (S2 := 7) (v := .int .i64 x18) rfl (by decide +kernel) rfl (q_load scalar3 rfl hx19) ?_
      obtain ⟨hn20, h⟩ := h
      refine plan_pure (i := 3) (d := 28) (S2 := 15) (v := .int .i64 (IntKind.wrap .i64 (Int.tdiv (IntKind.wrap .i64 (p1 - y7)) x18))) rfl (by decide +kernel) rfl (q_quo hn20 rfl rfl) ?_
      refine plan_pure (i := 4) (d := 29) (S2 := 31) (v := .int .i64 (IntKind.wrap .i64 (p1 - y7))) rfl (by decide +kernel) rfl (q_move e16_7) ?_
      refine plan_pure (i := 5) (d := 30) (S2 := 63) (v := .pointer (some (a1.add 2))) rfl (by decide +kernel) rfl (q_fieldAddr foff32_2 e16_2) ?_
      obtain ⟨x21, hx22, h⟩ := h
      refine plan_load (i := 6) (d := 31) (S2 := 127) (v := .int .i64 x21) rfl (by decide +kernel) rfl (q_load scalar3 rfl hx22) ?_
      obtain ⟨hn23, h⟩ := h
      refine plan_pure (i := 7) (d := 32) (S2 := 255) (v := .int .i64 (Int.tmod (IntKind.wrap .i64 (p1 - y7)) x21)) rfl (by decide +kernel) rfl (q_rem hn23 rfl rfl) ?_
      refine plan_pure (i := 8) (d := 4) (S2 := 511) (v := .int .i64 (IntKind.wrap .i64 (Int.tdiv (IntKind.wrap .i64 (p1 - y7)) x18))) rfl (by decide +kernel) rfl (q_assign rfl) ?_
      refine plan_pure (i := 9) (d := 5) (S2 := 1023) (v := .int .i64 (Int.tmod (IntKind.wrap .i64 (p1 - y7)) x21)) rfl (by decide +kernel) rfl (q_assign rfl) ?_
      refine plan_pure (i := 10) (d := 6) (S2 := 2047) (v := .bool true) rfl (by decide +kernel) rfl (q_assign rfl) ?_
      refine plan_done (by decide +kernel) ?_
      exact Go.ret ⟨.inl rfl, _, _, DOk.nil, (resOk3 Try.results40 rfl rfl rfl), ⟨_, _, _, rfl, h⟩⟩
  · intro j14 hj14 h
    rcases bor (decide (p1 < y11)) with hc12 | hc12
    · have h := h.1 hc12
      refine no_dst (want_no rfl rfl rfl hc12) rfl (by decide) ?_
      refine no_dst (want_no rfl rfl rfl hc12) rfl (by decide) ?_
      refine no_dst (want_no rfl rfl rfl hc12) rfl (by decide) ?_
      refine no_dst (want_no rfl rfl rfl hc12) rfl (by decide) ?_
      refine no_dst (want_no rfl rfl rfl hc12) rfl (by decide) ?_
      refine no_dst (want_no rfl rfl rfl hc12) rfl (by decide) ?_
      refine no_dst (want_no rfl rfl rfl hc12) rfl (by decide) ?_
      refine GoOps.q (v := .bool true) rfl rfl (by decide) (q_pickT (btT rfl hc12) rfl) ?_
      exact hj14 true _ _ h (by exact ⟨rfl, rfl, rfl⟩)
    · have h := h.2 hc12
      refine GoOps.q (v := .int .i64 (IntKind.wrap .i64 (p1 - y7))) (want_yes rfl rfl rfl hc12) rfl (by decide) (q_move rfl) ?_
      refine GoOps.q (v := .pointer (some (a1.add 1))) (want_yes rfl rfl rfl hc12) rfl (by decide) (q_fieldAddr foff32_1 rfl) ?_
      obtain ⟨x24, hx25, h⟩ := h
      refine GoOps.q (v := .int .i64 x24) (want_yes rfl rfl rfl hc12) rfl (by decide) (q_load scalar3 rfl hx25) ?_
      refine GoOps.q (v := .pointer (some (a1.add 2))) (want_yes rfl rfl rfl hc12) rfl (by decide) (q_fieldAddr foff32_2 rfl) ?_
      obtain ⟨x26, hx27, h⟩ := h
      refine GoOps.q (v := .int .i64 x26) (want_yes rfl rfl rfl hc12) rfl (by decide) (q_load scalar3 rfl hx27) ?_
      refine GoOps.q (v := .int .i64 (IntKind.wrap .i64 (x24 * x26))) (want_yes rfl rfl rfl hc12) rfl (by decide) (q_mul rfl rfl) ?_
      refine GoOps.q (v := .bool (decide ((IntKind.wrap .i64 (x24 * x26)) ≤ (IntKind.wrap .i64 (p1 - y7))))) (want_yes rfl rfl rfl hc12) rfl (by decide) (q_geq rfl rfl) ?_
      refine GoOps.q (v := .bool (decide ((IntKind.wrap .i64 (x24 * x26)) ≤ (IntKind.wrap .i64 (p1 - y7))))) rfl rfl (by decide) (q_pickF (btF rfl hc12) rfl) ?_
      exact hj14 (decide ((IntKind.wrap .i64 (x24 * x26)) ≤ (IntKind.wrap .i64 (p1 - y7)))) _ _ h (by exact ⟨rfl, rfl, rfl⟩)

/-- (*keelson.keelsonref11.Table).Add -/
def keelsonref11_Table_Add (p0 : Option Addr) (p1 : Int) (p2 : Int) (H : PH) (Q : Bool → PH → Prop) : Prop :=
  mNil p0 fun a1 =>
  mLdR (fun (x : (Int × Int × Int)) => [.int .i64 x.1, .int .i64 x.2.1, .int .i64 x.2.2]) H (a1.add 0) 3 fun x3 =>
  keelsonref1_Where (x3.1, x3.2.1, x3.2.2) p1 H fun y6 y7 y8 H5 =>
  mIf (!y8)
  (Q false H5)
  (mNil p0 fun a10 =>
  mLd Sl.v H5 (a10.add 4) fun x12 =>
  mIdx x12 1 y6 fun a14 =>
  mLd (.int .i64) H5 a14 fun x16 =>
  mJoin (fun (s18 : Int) (H20 : PH) =>
  mNil p0 fun a22 =>
  mLd Sl.v H20 (a22.add 4) fun x24 =>
  mIdx x24 1 y6 fun a26 =>
  mLd (.int .i64) H20 a26 fun x28 =>
  mJoin (fun (s30 : Int) (H32 : PH) =>
  mNil p0 fun a34 =>
  mLd Sl.v H32 (a34.add 4) fun x36 =>
  mNil p0 fun a38 =>
  mLd Sl.v H32 (a38.add 4) fun x40 =>
  mIdx x40 1 y6 fun a42 =>
  mLd (.int .i64) H32 a42 fun x44 =>
  mIdx x36 1 y6 fun a46 =>
  mSt H32 a46 ([.int .i64 (IntKind.wrap .i64 (x44 + s30))]) fun H48 =>
  Q true H48)
  fun j31 =>
  mIf (decide ((IntKind.wrap .i64 (2147483647 - x28)) < s18))
  (mNil p0 fun a51 =>
  mLd Sl.v H20 (a51.add 4) fun x53 =>
  mIdx x53 1 y6 fun a55 =>
  mLd (.int .i64) H20 a55 fun x57 =>
  j31 (IntKind.wrap .i64 (2147483647 - x57)) H20)
  (j31 s18 H20))
  fun j19 =>
  mIf (decide (p2 < (IntKind.wrap .i64 (0 - x16))))
  (mNil p0 fun a60 =>
  mLd Sl.v H5 (a60.add 4) fun x62 =>
  mIdx x62 1 y6 fun a64 =>
  mLd (.int .i64) H5 a64 fun x66 =>
  j19 (IntKind.wrap .i64 (0 - x66)) H5)
  (j19 p2 H5))

set_option maxRecDepth 20000 in
set_option maxHeartbeats 1000000 in
theorem keelsonref11_Table_Add_s (p0 : Option Addr) (p1 : Int) (p2 : Int) (H : PH) (Q : Bool → PH → Prop) (h : keelsonref11_Table_Add p0 p1 p2 H Q) :
    CallsH Try.prog 20 #[.pointer p0, .int .i64 p1, .int .i64 p2] H (fun v H' => ∃ (r0 : Bool), v = .bool r0 ∧ Q r0 H') := by
  unfold keelsonref11_Table_Add at h
  refine callsH_of_go Try.func20 rfl Try.ntmps20 (Nat.le_of_ble_eq_true rfl) ?_
  refine Go.seq ?_
  refine Go.region rfl ?_
  refine GoOps.q (v := .bool false) rfl rfl (by decide) (q_assign rfl) ?_
  refine GoOps.nil ?_
  refine Go.seq ?_
  refine Go.region rfl ?_
  refine GoOps.q (v := .pointer p0) rfl rfl (by decide) (q_move rfl) ?_
  obtain ⟨a1, ha2, h⟩ := h
  refine GoOps.q (v := .pointer (some a1)) rfl rfl (by decide) (q_nilCheck (ptn rfl ha2)) ?_
  refine GoOps.q (v := .pointer (some (a1.add 0))) rfl rfl (by decide) (q_fieldAddr foff64_0 rfl) ?_
  obtain ⟨x3, hx4, h⟩ := h
  refine GoOps.q (v := .agg ([.int .i64 x3.1, .int .i64 x3.2.1, .int .i64 x3.2.2] : List Value).toArray) rfl rfl (by decide) (q_loadA aggr32 rfl hx4) ?_
  refine GoOps.q (v := .int .i64 p1) rfl rfl (by decide) (q_move rfl) ?_
  refine call_dst rfl (by decide) body40 (keelsonref1_Where_s _ _ _ _ h) rfl ?_
  rintro _ H5 ⟨y6, y7, y8, rfl, h⟩
  refine GoOps.q (v := .tuple #[.int .i64 y6, .int .i64 y7, .bool y8]) rfl rfl (by decide) (q_move rfl) ?_
  refine GoOps.q (v := .int .i64 y6) rfl rfl (by decide) (q_extract rfl rfl) ?_
  refine GoOps.q (v := .int .i64 y7) rfl rfl (by decide) (q_extract rfl rfl) ?_
  refine GoOps.q (v := .bool y8) rfl rfl (by decide) (q_extract rfl rfl) ?_
  refine GoOps.q (v := .int .i64 y6) rfl rfl (by decide) (q_assign rfl) ?_
  refine GoOps.q (v := .int .i64 y7) rfl rfl (by decide) (q_assign rfl) ?_
  refine GoOps.q (v := .bool y8) rfl rfl (by decide) (q_assign rfl) ?_
  refine GoOps.nil ?_
  refine Go.seq ?_
  refine Go.seq ?_
  refine Go.region rfl ?_
  refine GoOps.q (v := .bool y8) rfl rfl (by decide) (q_move rfl) ?_
  refine GoOps.q (v := .bool (!y8)) rfl rfl (by decide) (q_not rfl) ?_
  refine GoOps.nil ?_
  rcases bor (!y8) with hc9 | hc9
  · have h := h.1 hc9
    refine Go.condT (btT rfl hc9) ?_
    refine Go.seq ?_
    refine Go.region rfl ?_
    refine GoOps.q (v := .bool false) rfl rfl (by decide) (q_assign rfl) ?_
    refine GoOps.nil ?_
    exact Go.ret ⟨.inl rfl, _, _, DOk.nil, (resOk1 Try.results20 rfl), ⟨_, rfl, h⟩⟩
  · have h := h.2 hc9
    refine Go.condF (btF rfl hc9) ?_
    refine Go.skip ?_
    refine Go.seq ?_
    refine Go.seq ?_
    refine Go.region rfl ?_
    refine GoOps.q (v := .int .i64 p2) rfl rfl (by decide) (q_move rfl) ?_
    refine GoOps.q (v := .pointer p0) rfl rfl (by decide) (q_move rfl) ?_
    obtain ⟨a10, ha11, h⟩ := h
    refine GoOps.q (v := .pointer (some a10)) rfl rfl (by decide) (q_nilCheck (ptn rfl ha11)) ?_
    refine GoOps.q (v := .pointer (some (a10.add 4))) rfl rfl (by decide) (q_fieldAddr foff64_2 rfl) ?_
    obtain ⟨x12, hx13, h⟩ := h
    refine GoOps.q (v := Sl.v x12) rfl rfl (by decide) (q_load scalar30 rfl hx13) ?_
    refine GoOps.q (v := .int .i64 y6) rfl rfl (by decide) (q_move rfl) ?_
    obtain ⟨a14, ha15, h⟩ := h
    refine GoOps.q (v := .pointer (some a14)) rfl rfl (by decide) (q_idx slice30 ha15 rfl rfl) ?_
    obtain ⟨x16, hx17, h⟩ := h
    refine GoOps.q (v := .int .i64 x16) rfl rfl (by decide) (q_load scalar3 rfl hx17) ?_
    refine GoOps.q (v := .int .i64 (IntKind.wrap .i64 (0 - x16))) rfl rfl (by decide) (q_neg rfl) ?_
    refine GoOps.q (v := .bool (decide (p2 < (IntKind.wrap .i64 (0 - x16))))) rfl rfl (by decide) (q_lss rfl rfl) ?_
    refine GoOps.nil ?_
    refine join_go 1 (fun ρ (s18 : Int) => ρ 0 = .pointer p0 ∧ ρ 2 = .int .i64 s18 ∧ ρ 7 = .int .i64 y6) h ?_ ?_ <;> clear h
    · intro s18 H20 ρ h hE
      obtain ⟨e21_0, e21_2, e21_7⟩ := hE
      refine Go.seq ?_
      refine Go.seq ?_
      refine Go.region rfl ?_
      refine GoOps.q (v := .int .i64 s18) rfl rfl (by decide) (q_move e21_2) ?_
      refine GoOps.q (v := .pointer p0) rfl rfl (by decide) (q_move e21_0) ?_
      obtain ⟨a22, ha23, h⟩ := h
      refine GoOps.q (v := .pointer (some a22)) rfl rfl (by decide) (q_nilCheck (ptn rfl ha23)) ?_
      refine GoOps.q (v := .pointer (some (a22.add 4))) rfl rfl (by decide) (q_fieldAddr foff64_2 rfl) ?_
      obtain ⟨x24, hx25, h⟩ := h
      refine GoOps.q (v := Sl.v x24) rfl rfl (by decide) (q_load scalar30 rfl hx25) ?_
      refine GoOps.q (v := .int .i64 y6) rfl rfl (by decide) (q_move e21_7) ?_
      obtain ⟨a26, ha27, h⟩ := h
      refine GoOps.q (v := .pointer (some a26)) rfl rfl (by decide) (q_idx slice30 ha27 rfl rfl) ?_
      obtain ⟨x28, hx29, h⟩ := h
      refine GoOps.q (v := .int .i64 x28) rfl rfl (by decide) (q_load scalar3 rfl hx29) ?_
      refine GoOps.q (v := .int .i64 (IntKind.wrap .i64 (2147483647 - x28))) rfl rfl (by decide) (q_sub rfl rfl) ?_
      refine GoOps.q (v := .bool (decide ((IntKind.wrap .i64 (2147483647 - x28)) < s18))) rfl rfl (by decide) (q_gtr rfl rfl) ?_
      refine GoOps.nil ?_
      refine join_go 1 (fun ρ (s30 : Int) => ρ 0 = .pointer p0 ∧ ρ 2 = .int .i64 s30 ∧ ρ 7 = .int .i64 y6) h ?_ ?_ <;> clear h
      · intro s30 H32 ρ h hE
        obtain ⟨e33_0, e33_2, e33_7⟩ := hE
        refine Go.seq ?_
        refine Go.draw mixed ?_
        refine plan_pure (i := 0) (d := 58) (S2 := 1) (v := .pointer p0) rfl (by decide +kernel) rfl (q_move e33_0) ?_
        obtain ⟨a34, ha35, h⟩ := h
        refine plan_pure (i := 1) (d := 59) (S2 := 3) (v := .pointer (some a34)) rfl (by decide +kernel) rfl (q_nilCheck (ptn rfl ha35)) ?_
        refine plan_pure (i := 2) (d := 60) (S2 := 7) (v := .pointer (some (a34.add 4))) rfl (by decide +kernel) rfl (q_fieldAddr foff64_2 rfl) ?_
        obtain ⟨x36, hx37, h⟩ := h
        refine plan_load (i := 3) (d := 61) (S2 := 15) (v := Sl.v x36) rfl (by decide +kernel) rfl (q_load scalar30 rfl hx37) ?_
        refine plan_pure (i := 4) (d := 62) (S2 := 31) (v := .int .i64 y6) rfl (by decide +kernel) rfl (q_move e33_7) ?_
        refine plan_pure (i := 5) (d := 63) (S2 := 63) (v := .pointer p0) rfl (by decide +kernel) rfl (q_move e33_0) ?_
        obtain ⟨a38, ha39, h⟩ := h
        refine plan_pure (i := 6) (d := 64) (S2 := 127) (v := .pointer (some a38)) rfl (by decide +kernel) rfl (q_nilCheck (ptn rfl ha39)) ?_
        refine plan_pure (i := 7) (d := 65) (S2 := 255) (v := .pointer (some (a38.add 4))) rfl (by decide +kernel) rfl (q_fieldAddr foff64_2 rfl) ?_
        obtain ⟨x40, hx41, h⟩ := h
        refine plan_load (i := 8) (d := 66) (S2 := 511) (v := Sl.v x40) rfl (by decide +kernel) rfl (q_load scalar30 rfl hx41) ?_
        refine plan_pure (i := 9) (d := 67) (S2 := 1023) (v := .int .i64 y6) rfl (by decide +kernel) rfl (q_move e33_7) ?_
        obtain ⟨a42, ha43, h⟩ := h
        refine plan_pure (i := 10) (d := 68) (S2 := 2047) (v := .pointer (some a42)) rfl (by decide +kernel) rfl (q_idx slice30 ha43 rfl rfl) ?_
        obtain ⟨x44, hx45, h⟩ := h
        refine plan_load (i := 11) (d := 69) (S2 := 4095) (v := .int .i64 x44) rfl (by decide +kernel) rfl (q_load scalar3 rfl hx45) ?_
        refine plan_pure (i := 12) (d := 70) (S2 := 8191) (v := .int .i64 s30) rfl (by decide +kernel) rfl (q_move e33_2) ?_
        refine plan_pure (i := 13) (d := 71) (S2 := 16383) (v := .int .i64 (IntKind.wrap .i64 (x44 + s30))) rfl (by decide +kernel) rfl (q_add rfl rfl) ?_
        obtain ⟨a46, ha47, h⟩ := h
        refine plan_pure (i := 14) (d := 72) (S2 := 32767) (v := .pointer (some a46)) rfl (by decide +kernel) rfl (q_idx slice30 ha47 rfl rfl) ?_
        refine plan_one (j := 15) (S2 := 65535) (by decide +kernel) rfl (by decide) rfl ?_
        obtain ⟨q49b, q49o, q49c, q49e, hq49a, hq49b, hq49l, hq49v, h⟩ := h
        refine do_store (vs := [.int .i64 (IntKind.wrap .i64 (x44 + s30))]) size3 (pta rfl hq49a) rfl rfl rfl hq49v hq49b hq49l ?_
        refine ⟨_, (.inl ⟨⟨[15], by decide +kernel, rfl⟩, .inl ⟨⟨[15], by decide +kernel, rfl⟩, .inl ⟨⟨[15], by decide +kernel, rfl⟩, rfl⟩⟩⟩), ?_⟩
        refine plan_done (by decide +kernel) ?_
        refine Go.seq ?_
        refine Go.region rfl ?_
        refine GoOps.q (v := .bool true) rfl rfl (by decide) (q_assign rfl) ?_
        refine GoOps.nil ?_
        exact Go.ret ⟨.inl rfl, _, _, DOk.nil, (resOk1 Try.results20 rfl), ⟨_, rfl, h⟩⟩
      · intro j31 hj31 h
        rcases bor (decide ((IntKind.wrap .i64 (2147483647 - x28)) < s18)) with hc50 | hc50
        · have h := h.1 hc50
          refine Go.condT (btT rfl hc50) ?_
          refine Go.region rfl ?_
          refine GoOps.q (v := .pointer p0) rfl rfl (by decide) (q_move e21_0) ?_
          obtain ⟨a51, ha52, h⟩ := h
          refine GoOps.q (v := .pointer (some a51)) rfl rfl (by decide) (q_nilCheck (ptn rfl ha52)) ?_
          refine GoOps.q (v := .pointer (some (a51.add 4))) rfl rfl (by decide) (q_fieldAddr foff64_2 rfl) ?_
          obtain ⟨x53, hx54, h⟩ := h
          refine GoOps.q (v := Sl.v x53) rfl rfl (by decide) (q_load scalar30 rfl hx54) ?_
          refine GoOps.q (v := .int .i64 y6) rfl rfl (by decide) (q_move e21_7) ?_
          obtain ⟨a55, ha56, h⟩ := h
          refine GoOps.q (v := .pointer (some a55)) rfl rfl (by decide) (q_idx slice30 ha56 rfl rfl) ?_
          obtain ⟨x57, hx58, h⟩ := h
          refine GoOps.q (v := .int .i64 x57) rfl rfl (by decide) (q_load scalar3 rfl hx58) ?_
          refine GoOps.q (v := .int .i64 (IntKind.wrap .i64 (2147483647 - x57))) rfl rfl (by decide) (q_sub rfl rfl) ?_
          refine GoOps.q (v := .int .i64 (IntKind.wrap .i64 (2147483647 - x57))) rfl rfl (by decide) (q_assign rfl) ?_
          refine GoOps.nil ?_
          exact hj31 _ _ _ h ⟨e21_0, rfl, e21_7⟩
        · have h := h.2 hc50
          refine Go.condF (btF rfl hc50) ?_
          refine Go.skip ?_
          exact hj31 _ _ _ h ⟨e21_0, e21_2, e21_7⟩
    · intro j19 hj19 h
      rcases bor (decide (p2 < (IntKind.wrap .i64 (0 - x16)))) with hc59 | hc59
      · have h := h.1 hc59
        refine Go.condT (btT rfl hc59) ?_
        refine Go.region rfl ?_
        refine GoOps.q (v := .pointer p0) rfl rfl (by decide) (q_move rfl) ?_
        obtain ⟨a60, ha61, h⟩ := h
        refine GoOps.q (v := .pointer (some a60)) rfl rfl (by decide) (q_nilCheck (ptn rfl ha61)) ?_
        refine GoOps.q (v := .pointer (some (a60.add 4))) rfl rfl (by decide) (q_fieldAddr foff64_2 rfl) ?_
        obtain ⟨x62, hx63, h⟩ := h
        refine GoOps.q (v := Sl.v x62) rfl rfl (by decide) (q_load scalar30 rfl hx63) ?_
        refine GoOps.q (v := .int .i64 y6) rfl rfl (by decide) (q_move rfl) ?_
        obtain ⟨a64, ha65, h⟩ := h
        refine GoOps.q (v := .pointer (some a64)) rfl rfl (by decide) (q_idx slice30 ha65 rfl rfl) ?_
        obtain ⟨x66, hx67, h⟩ := h
        refine GoOps.q (v := .int .i64 x66) rfl rfl (by decide) (q_load scalar3 rfl hx67) ?_
        refine GoOps.q (v := .int .i64 (IntKind.wrap .i64 (0 - x66))) rfl rfl (by decide) (q_neg rfl) ?_
        refine GoOps.q (v := .int .i64 (IntKind.wrap .i64 (0 - x66))) rfl rfl (by decide) (q_assign rfl) ?_
        refine GoOps.nil ?_
        exact hj19 _ _ _ h ⟨rfl, rfl, rfl⟩
      · have h := h.2 hc59
        refine Go.condF (btF rfl hc59) ?_
        refine Go.skip ?_
        exact hj19 _ _ _ h ⟨rfl, rfl, rfl⟩

/-- (*keelson.keelsonref11.Table).Sealed -/
def keelsonref11_Table_Sealed (p0 : Option Addr) (H : PH) (Q : Sl → PH → Prop) : Prop :=
  mLoop (fun (s1 : Sl × Int) (H4 : PH) (again2 : (Sl × Int) → PH → Prop) =>
  mNil p0 fun a5 =>
  mLd Sl.v H4 (a5.add 3) fun x7 =>
  mIf (decide (s1.2 < (x7.len : Int)))
  (mJoin (fun (s10 : Sl) (H12 : PH) =>
  again2 (s10, IntKind.wrap .i64 (s1.2 + 1)) H12)
  fun j11 =>
  mNil p0 fun a14 =>
  mLd Sl.v H4 (a14.add 3) fun x16 =>
  mIdx x16 2 s1.2 fun a18 =>
  mLd (.int .i64) H4 (a18.add 0) fun x20 =>
  mIf (x20 == 2)
  (mNewS H4 (row [.int .i64 s1.2] 3) 1 fun r23 H24 =>
  mApp H24 3 1 8 [.int .i64 0] s1.1 r23 fun r26 H27 =>
  j11 r26 H27)
  (j11 s1.1 H4))
  (Q s1.1 H4))
  (Sl.nil, 0) H

set_option maxRecDepth 20000 in
set_option maxHeartbeats 1000000 in
theorem keelsonref11_Table_Sealed_s (p0 : Option Addr) (H : PH) (Q : Sl → PH → Prop) (h : keelsonref11_Table_Sealed p0 H Q) :
    CallsH Try.prog 45 #[.pointer p0] H (fun v H' => ∃ (r0 : Sl), v = Sl.v r0 ∧ Q r0 H') := by
  unfold keelsonref11_Table_Sealed at h
  refine callsH_of_go Try.func45 rfl Try.ntmps45 (Nat.le_of_ble_eq_true rfl) ?_
  refine Go.seq ?_
  refine Go.region rfl ?_
  refine GoOps.q (v := Sl.v Sl.nil) rfl rfl (by decide) (q_assign rfl) ?_
  refine GoOps.nil ?_
  refine Go.seq ?_
  refine Go.region rfl ?_
  refine GoOps.q (v := Sl.v Sl.nil) rfl rfl (by decide) (q_assign rfl) ?_
  refine GoOps.nil ?_
  refine Go.seq ?_
  refine Go.seq ?_
  refine Go.region rfl ?_
  refine GoOps.q (v := .int .i64 0) rfl rfl (by decide) (q_assign rfl) ?_
  refine GoOps.nil ?_
  refine Go.block ?_
  refine loop_go (fun ρ (s1 : Sl × Int) => ρ 0 = .pointer p0 ∧ ρ 3 = Sl.v s1.1 ∧ ρ 4 = .int .i64 s1.2) h ⟨rfl, rfl, rfl⟩ ?_
  clear h
  intro ρ s1 H4 again2 hE h hagain2
  obtain ⟨e3_0, e3_3, e3_4⟩ := hE
  refine Go.seq ?_
  refine Go.seq ?_
  refine Go.region rfl ?_
  refine GoOps.q (v := .int .i64 s1.2) rfl rfl (by decide) (q_move e3_4) ?_
  refine GoOps.q (v := .pointer p0) rfl rfl (by decide) (q_move e3_0) ?_
  obtain ⟨a5, ha6, h⟩ := h
  refine GoOps.q (v := .pointer (some a5)) rfl rfl (by decide) (q_nilCheck (ptn rfl ha6)) ?_
  refine GoOps.q (v := .pointer (some (a5.add 3))) rfl rfl (by decide) (q_fieldAddr foff64_1 rfl) ?_
  obtain ⟨x7, hx8, h⟩ := h
  refine GoOps.q (v := Sl.v x7) rfl rfl (by decide) (q_load scalar38 rfl hx8) ?_
  refine GoOps.q (v := .int .i64 (x7.len : Int)) rfl rfl (by decide) (q_len Try.underlying38 rfl (ls1 rfl)) ?_
  refine GoOps.q (v := .bool (decide (s1.2 < (x7.len : Int)))) rfl rfl (by decide) (q_lss rfl rfl) ?_
  refine GoOps.nil ?_
  rcases bor (decide (s1.2 < (x7.len : Int))) with hc9 | hc9
  · have h := h.1 hc9
    refine Go.condT (btT rfl hc9) ?_
    refine Go.skip ?_
    refine Go.seq ?_
    refine join_go 1 (fun ρ (s10 : Sl) => ρ 0 = .pointer p0 ∧ ρ 3 = Sl.v s10 ∧ ρ 4 = .int .i64 s1.2) h ?_ ?_ <;> clear h
    · intro s10 H12 ρ h hE
      obtain ⟨e13_0, e13_3, e13_4⟩ := hE
      refine Go.region rfl ?_
      refine GoOps.q (v := .int .i64 s1.2) rfl rfl (by decide) (q_move e13_4) ?_
      refine GoOps.q (v := .int .i64 (IntKind.wrap .i64 (s1.2 + 1))) rfl rfl (by decide) (q_add rfl rfl) ?_
      refine GoOps.q (v := .int .i64 (IntKind.wrap .i64 (s1.2 + 1))) rfl rfl (by decide) (q_assign rfl) ?_
      refine GoOps.nil ?_
      exact hagain2 _ _ _ h ⟨e13_0, e13_3, rfl⟩
    · intro j11 hj11 h
      refine Go.block ?_
      refine Go.seq ?_
      refine Go.region rfl ?_
      refine GoOps.q (v := .pointer p0) rfl rfl (by decide) (q_move e3_0) ?_
      obtain ⟨a14, ha15, h⟩ := h
      refine GoOps.q (v := .pointer (some a14)) rfl rfl (by decide) (q_nilCheck (ptn rfl ha15)) ?_
      refine GoOps.q (v := .pointer (some (a14.add 3))) rfl rfl (by decide) (q_fieldAddr foff64_1 rfl) ?_
      obtain ⟨x16, hx17, h⟩ := h
      refine GoOps.q (v := Sl.v x16) rfl rfl (by decide) (q_load scalar38 rfl hx17) ?_
      refine GoOps.q (v := .int .i64 s1.2) rfl rfl (by decide) (q_move e3_4) ?_
      obtain ⟨a18, ha19, h⟩ := h
      refine GoOps.q (v := .pointer (some a18)) rfl rfl (by decide) (q_idx slice38 ha19 rfl rfl) ?_
      refine GoOps.q (v := .pointer (some (a18.add 0))) rfl rfl (by decide) (q_fieldAddr foff40_0 rfl) ?_
      obtain ⟨x20, hx21, h⟩ := h
      refine GoOps.q (v := .int .i64 x20) rfl rfl (by decide) (q_load scalar3 rfl hx21) ?_
      refine GoOps.q (v := .bool (x20 == 2)) rfl rfl (by decide) (q_eql rfl rfl) ?_
      refine GoOps.nil ?_
      rcases bor (x20 == 2) with hc22 | hc22
      · have h := h.1 hc22
        refine Go.condT (btT rfl hc22) ?_
        refine Go.region rfl ?_
        refine GoOps.q (v := Sl.v s1.1) rfl rfl (by decide) (q_move e3_3) ?_
        refine GoOps.q (v := .int .i64 s1.2) rfl rfl (by decide) (q_move e3_4) ?_
        refine op_dst rfl rfl (by decide) (do_bs (ps := [(0, .int .i64 s1.2)]) (zs := [.int .i64 0]) (cs := [.int .i64 s1.2]) slice30 zero3 rfl rfl (by decide) (by decide) rfl rfl fun r23 H24 hb25 => ?_) 
        have h := h r23 H24 hb25
        refine op_dst rfl rfl (by decide) (do_append (zs := [.int .i64 0]) slice30 bytes3 (by decide) zero3 rfl rfl (by decide) rfl rfl Try.underlying30 rfl h fun r26 H27 h => ?_) 
        refine GoOps.q (v := Sl.v r26) rfl rfl (by decide) (q_assign rfl) ?_
        refine GoOps.nil ?_
        refine Go.inBlock ?_
        exact hj11 _ _ _ h ⟨e3_0, rfl, e3_4⟩
      · have h := h.2 hc22
        refine Go.condF (btF rfl hc22) ?_
        refine Go.skip ?_
        refine Go.inBlock ?_
        exact hj11 _ _ _ h ⟨e3_0, e3_3, e3_4⟩
  · have h := h.2 hc9
    refine Go.condF (btF rfl hc9) ?_
    refine Go.exit rfl ?_
    refine Go.seq ?_
    refine Go.region rfl ?_
    refine GoOps.q (v := Sl.v s1.1) rfl rfl (by decide) (q_move e3_3) ?_
    refine GoOps.q (v := Sl.v s1.1) rfl rfl (by decide) (q_assign rfl) ?_
    refine GoOps.nil ?_
    exact Go.ret ⟨.inl rfl, _, _, DOk.nil, (resOk1 Try.results45 rfl), ⟨_, rfl, h⟩⟩

/-- keelson.keelsonref1.Half -/
def keelsonref1_Half (p0 : (Int × Int × Int)) (H : PH) (Q : Int → PH → Prop) : Prop :=
  mNew H (row [.int .i64 p0.1, .int .i64 p0.2.1, .int .i64 p0.2.2] 32) fun a1 H2 =>
  mLd (.int .i64) H2 (a1.add 2) fun x4 =>
  Q (IntKind.wrap .i64 (Int.tdiv (IntKind.wrap .i64 (x4 - 2)) 2)) H2

set_option maxRecDepth 20000 in
set_option maxHeartbeats 1000000 in
theorem keelsonref1_Half_s (p0 : (Int × Int × Int)) (H : PH) (Q : Int → PH → Prop) (h : keelsonref1_Half p0 H Q) :
    CallsH Try.prog 46 #[.agg ([.int .i64 p0.1, .int .i64 p0.2.1, .int .i64 p0.2.2] : List Value).toArray] H (fun v H' => ∃ (r0 : Int), v = .int .i64 r0 ∧ Q r0 H') := by
  unfold keelsonref1_Half at h
  refine callsH_of_go Try.func46 rfl Try.ntmps46 (Nat.le_of_ble_eq_true rfl) ?_
  refine Go.seq ?_
  refine Go.region rfl ?_
  refine op_dst rfl rfl (by decide) (do_newBox (cs := [.int .i64 p0.1, .int .i64 p0.2.1, .int .i64 p0.2.2]) rfl rfl fun a1 H2 hb3 => ?_) 
  have h := h a1 H2 hb3
  refine GoOps.q (v := .int .i64 0) rfl rfl (by decide) (q_assign rfl) ?_
  refine GoOps.nil ?_
  refine Go.seq ?_
  refine Go.region rfl ?_
  refine GoOps.q (v := .pointer (some (a1.add 2))) rfl rfl (by decide) (q_fieldAddr foff32_2 rfl) ?_
  obtain ⟨x4, hx5, h⟩ := h
  refine GoOps.q (v := .int .i64 x4) rfl rfl (by decide) (q_load scalar3 rfl hx5) ?_
  refine GoOps.q (v := .int .i64 (IntKind.wrap .i64 (x4 - 2))) rfl rfl (by decide) (q_sub rfl rfl) ?_
  refine GoOps.q (v := .int .i64 (IntKind.wrap .i64 (Int.tdiv (IntKind.wrap .i64 (x4 - 2)) 2))) rfl rfl (by decide) (q_quo (by decide) rfl rfl) ?_
  refine GoOps.q (v := .int .i64 (IntKind.wrap .i64 (Int.tdiv (IntKind.wrap .i64 (x4 - 2)) 2))) rfl rfl (by decide) (q_assign rfl) ?_
  refine GoOps.nil ?_
  exact Go.ret ⟨.inl rfl, _, _, DOk.nil, (resOk1 Try.results46 rfl), ⟨_, rfl, h⟩⟩

/-- keelson.keelsonref11.Pick -/
def keelsonref11_Pick (p0 : Option Addr) (p1 : Int) (H : PH) (Q : Int → PH → Prop) : Prop :=
  mNew H (row [.int .i64 0, .int .i64 0, .int .i64 0] 27) fun a1 H2 =>
  mSt H2 a1 ([.int .i64 0, .int .i64 0, .int .i64 (-1)]) fun H4 =>
  keelsonref11_Table_Sealed p0 H4 fun y7 H6 =>
  mLoop (fun (s8 : Int) (H11 : PH) (again9 : Int → PH → Prop) =>
  mIf (decide (s8 < (y7.len : Int)))
  (mJoin (fun (s13 : Unit) (H15 : PH) =>
  again9 (IntKind.wrap .i64 (s8 + 1)) H15)
  fun j14 =>
  mIdx y7 1 s8 fun a17 =>
  mLd (.int .i64) H11 a17 fun x19 =>
  mNil p0 fun a21 =>
  mLd Sl.v H11 (a21.add 4) fun x23 =>
  mIdx x23 1 x19 fun a25 =>
  mLd (.int .i64) H11 a25 fun x27 =>
  mNil p0 fun a29 =>
  mLdR (fun (x : (Int × Int × Int)) => [.int .i64 x.1, .int .i64 x.2.1, .int .i64 x.2.2]) H11 (a29.add 0) 3 fun x31 =>
  keelsonref1_Half (x31.1, x31.2.1, x31.2.2) H11 fun y34 H33 =>
  mSame H33 a25 (.int .i64 x27) <|
  mSame H33 (a21.add 4) (Sl.v x23) <|
  keelsonref1_Within x27 1 y34 H33 fun y38 H37 =>
  mIf (!y38)
  (j14 () H37)
  (mNil p0 fun a40 =>
  mLd Sl.v H37 (a40.add 3) fun x42 =>
  mIdx x42 2 x19 fun a44 =>
  mLd (.int .i64) H37 (a44.add 1) fun x46 =>
  mJoin (fun (s48 : Int) (H50 : PH) =>
  mJoin (fun (s52 : Addr) (H54 : PH) =>
  mIdxA 3 a1 1 2 fun a56 =>
  mLd (.int .i64) H54 a56 fun x58 =>
  mJoin (fun (s61 : Bool) (H63 : PH) =>
  mIf s61
  (mLdR (fun (x : (Int × Int × Int)) => [.int .i64 x.1, .int .i64 x.2.1, .int .i64 x.2.2]) H63 s52 3 fun x66 =>
  mSt H63 a1 ([.int .i64 x66.1, .int .i64 x66.2.1, .int .i64 x66.2.2]) fun H68 =>
  j14 () H68)
  (j14 () H63))
  fun j62 =>
  mIf (decide (x58 < 0))
  (j62 true H54)
  (mLdR (fun (x : (Int × Int × Int)) => [.int .i64 x.1, .int .i64 x.2.1, .int .i64 x.2.2]) H54 s52 3 fun x70 =>
  mLdR (fun (x : (Int × Int × Int)) => [.int .i64 x.1, .int .i64 x.2.1, .int .i64 x.2.2]) H54 a1 3 fun x72 =>
  keelsonref11_Better (x70.1, x70.2.1, x70.2.2) (x72.1, x72.2.1, x72.2.2) H54 fun y75 H74 =>
  j62 y75 H74))
  fun j53 =>
  mNil p0 fun a76 =>
  mLd Sl.v H50 (a76.add 4) fun x78 =>
  mIdx x78 1 x19 fun a80 =>
  mLd (.int .i64) H50 a80 fun x82 =>
  mNil p0 fun a84 =>
  mLd (.int .i64) H50 ((a84.add 0).add 2) fun x86 =>
  mNil p0 fun a88 =>
  mLd Sl.v H50 (a88.add 4) fun x90 =>
  mIdx x90 1 x19 fun a92 =>
  mLd (.int .i64) H50 a92 fun x94 =>
  keelsonref11_Score x82 s48 (IntKind.wrap .i64 (x86 - 2)) H50 fun y97 H96 =>
  mSame H96 a92 (.int .i64 x94) <|
  mSame H96 (a88.add 4) (Sl.v x90) <|
  mNew H96 (row [.int .i64 0, .int .i64 0, .int .i64 0] 27) fun a100 H101 =>
  mSame H101 a92 (.int .i64 x94) <|
  mSame H101 (a88.add 4) (Sl.v x90) <|
  mSt H101 a100 ([.int .i64 y97, .int .i64 x94, .int .i64 x19]) fun H105 =>
  j53 a100 H105)
  fun j49 =>
  mIf (decide (x46 < p1))
  (mNil p0 fun a123 =>
  mLd Sl.v H37 (a123.add 3) fun x125 =>
  mIdx x125 2 x19 fun a127 =>
  mLd (.int .i64) H37 (a127.add 1) fun x129 =>
  j49 (if 2147483647 < (IntKind.wrap .i64 (p1 - x129)) then 2147483647 else (IntKind.wrap .i64 (p1 - x129))) H37)
  (j49 0 H37)))
  (mIdxA 3 a1 1 2 fun a131 =>
  mLd (.int .i64) H11 a131 fun x133 =>
  Q x133 H11))
  0 H6

set_option maxRecDepth 20000 in
set_option maxHeartbeats 1000000 in
theorem keelsonref11_Pick_s (p0 : Option Addr) (p1 : Int) (H : PH) (Q : Int → PH → Prop) (h : keelsonref11_Pick p0 p1 H Q) :
    CallsH Try.prog 23 #[.pointer p0, .int .i64 p1] H (fun v H' => ∃ (r0 : Int), v = .int .i64 r0 ∧ Q r0 H') := by
  unfold keelsonref11_Pick at h
  refine callsH_of_go Try.func23 rfl Try.ntmps23 (Nat.le_of_ble_eq_true rfl) ?_
  refine Go.seq ?_
  refine Go.region rfl ?_
  refine GoOps.q (v := .int .i64 0) rfl rfl (by decide) (q_assign rfl) ?_
  refine GoOps.nil ?_
  refine Go.seq ?_
  refine Go.region rfl ?_
  refine GoOps.q (v := .agg ([.int .i64 0, .int .i64 0, .int .i64 (-1)] : List Value).toArray) rfl rfl (by decide) (q_buildA (ps := [(0, .int .i64 0), (1, .int .i64 0), (2, .int .i64 (-1))]) (cs := [.int .i64 0, .int .i64 0, .int .i64 (-1)]) array27 zero27 rfl rfl rfl) ?_
  refine op_dst rfl rfl (by decide) (do_new zero27 rfl fun a1 H2 hb3 => ?_) 
  have h := h a1 H2 hb3
  obtain ⟨q5b, q5o, q5c, q5e, hq5a, hq5b, hq5l, hq5v, h⟩ := h
  refine op_none rfl rfl (do_store (vs := [.int .i64 0, .int .i64 0, .int .i64 (-1)]) size27 (pta rfl hq5a) rfl rfl rfl hq5v hq5b hq5l ?_) 
  refine GoOps.nil ?_
  refine Go.seq ?_
  refine Go.region rfl ?_
  refine GoOps.q (v := .pointer p0) rfl rfl (by decide) (q_move rfl) ?_
  refine call_dst rfl (by decide) body45 (keelsonref11_Table_Sealed_s _ _ _ h) rfl ?_
  rintro _ H6 ⟨y7, rfl, h⟩
  refine GoOps.q (v := Sl.v y7) rfl rfl (by decide) (q_assign rfl) ?_
  refine GoOps.nil ?_
  refine Go.seq ?_
  refine Go.seq ?_
  refine Go.region rfl ?_
  refine GoOps.q (v := .int .i64 0) rfl rfl (by decide) (q_assign rfl) ?_
  refine GoOps.nil ?_
  refine Go.block ?_
  refine loop_go (fun ρ (s8 : Int) => ρ 0 = .pointer p0 ∧ ρ 1 = .int .i64 p1 ∧ ρ 5 = .pointer (some a1) ∧ ρ 6 = Sl.v y7 ∧ ρ 7 = .int .i64 s8) h ⟨rfl, rfl, rfl, rfl, rfl⟩ ?_
  clear h
  intro ρ s8 H11 again9 hE h hagain9
  obtain ⟨e10_0, e10_1, e10_5, e10_6, e10_7⟩ := hE
  refine Go.seq ?_
  refine Go.seq ?_
  refine Go.region rfl ?_
  refine GoOps.q (v := .int .i64 s8) rfl rfl (by decide) (q_move e10_7) ?_
  refine GoOps.q (v := Sl.v y7) rfl rfl (by decide) (q_move e10_6) ?_
  refine GoOps.q (v := .int .i64 (y7.len : Int)) rfl rfl (by decide) (q_len Try.underlying30 rfl (ls1 rfl)) ?_
  refine GoOps.q (v := .bool (decide (s8 < (y7.len : Int)))) rfl rfl (by decide) (q_lss rfl rfl) ?_
  refine GoOps.nil ?_
  rcases bor (decide (s8 < (y7.len : Int))) with hc12 | hc12
  · have h := h.1 hc12
    refine Go.condT (btT rfl hc12) ?_
    refine Go.skip ?_
    refine Go.seq ?_
    refine join_go 1 (fun ρ (s13 : Unit) => ρ 0 = .pointer p0 ∧ ρ 1 = .int .i64 p1 ∧ ρ 5 = .pointer (some a1) ∧ ρ 6 = Sl.v y7 ∧ ρ 7 = .int .i64 s8) h ?_ ?_ <;> clear h
    · intro s13 H15 ρ h hE
      obtain ⟨e16_0, e16_1, e16_5, e16_6, e16_7⟩ := hE
      refine Go.region rfl ?_
      refine GoOps.q (v := .int .i64 s8) rfl rfl (by decide) (q_move e16_7) ?_
      refine GoOps.q (v := .int .i64 (IntKind.wrap .i64 (s8 + 1))) rfl rfl (by decide) (q_add rfl rfl) ?_
      refine GoOps.q (v := .int .i64 (IntKind.wrap .i64 (s8 + 1))) rfl rfl (by decide) (q_assign rfl) ?_
      refine GoOps.nil ?_
      exact hagain9 _ _ _ h ⟨e16_0, e16_1, e16_5, e16_6, rfl⟩
    · intro j14 hj14 h
      refine Go.block ?_
      refine Go.seq ?_
      refine Go.region rfl ?_
      refine GoOps.q (v := Sl.v y7) rfl rfl (by decide) (q_move e10_6) ?_
      refine GoOps.q (v := .int .i64 s8) rfl rfl (by decide) (q_move e10_7) ?_
      obtain ⟨a17, ha18, h⟩ := h
      refine GoOps.q (v := .pointer (some a17)) rfl rfl (by decide) (q_idx slice30 ha18 rfl rfl) ?_
      obtain ⟨x19, hx20, h⟩ := h
      refine GoOps.q (v := .int .i64 x19) rfl rfl (by decide) (q_load scalar3 rfl hx20) ?_
      refine GoOps.q (v := .int .i64 x19) rfl rfl (by decide) (q_assign rfl) ?_
      refine GoOps.nil ?_
      refine Go.seq ?_
      refine Go.seq ?_
      refine Go.draw mixed ?_
      refine plan_pure (i := 0) (d := 24) (S2 := 1) (v := .pointer p0) rfl (by decide +kernel) rfl (q_move e10_0) ?_
      obtain ⟨a21, ha22, h⟩ := h
      refine plan_pure (i := 1) (d := 25) (S2 := 3) (v := .pointer (some a21)) rfl (by decide +kernel) rfl (q_nilCheck (ptn rfl ha22)) ?_
      refine plan_pure (i := 2) (d := 26) (S2 := 7) (v := .pointer (some (a21.add 4))) rfl (by decide +kernel) rfl (q_fieldAddr foff64_2 rfl) ?_
      obtain ⟨x23, hx24, h⟩ := h
      refine plan_load (i := 3) (d := 27) (S2 := 15) (v := Sl.v x23) rfl (by decide +kernel) rfl (q_load scalar30 rfl hx24) ?_
      refine plan_pure (i := 4) (d := 28) (S2 := 31) (v := .int .i64 x19) rfl (by decide +kernel) rfl (q_move rfl) ?_
      obtain ⟨a25, ha26, h⟩ := h
      refine plan_pure (i := 5) (d := 29) (S2 := 63) (v := .pointer (some a25)) rfl (by decide +kernel) rfl (q_idx slice30 ha26 rfl rfl) ?_
      obtain ⟨x27, hx28, h⟩ := h
      refine plan_load (i := 6) (d := 30) (S2 := 127) (v := .int .i64 x27) rfl (by decide +kernel) rfl (q_load scalar3 rfl hx28) ?_
      refine plan_pure (i := 7) (d := 31) (S2 := 255) (v := .pointer p0) rfl (by decide +kernel) rfl (q_move e10_0) ?_
      obtain ⟨a29, ha30, h⟩ := h
      refine plan_pure (i := 8) (d := 32) (S2 := 511) (v := .pointer (some a29)) rfl (by decide +kernel) rfl (q_nilCheck (ptn rfl ha30)) ?_
      refine plan_pure (i := 9) (d := 33) (S2 := 1023) (v := .pointer (some (a29.add 0))) rfl (by decide +kernel) rfl (q_fieldAddr foff64_0 rfl) ?_
      obtain ⟨x31, hx32, h⟩ := h
      refine plan_load (i := 10) (d := 34) (S2 := 2047) (v := .agg ([.int .i64 x31.1, .int .i64 x31.2.1, .int .i64 x31.2.2] : List Value).toArray) rfl (by decide +kernel) rfl (q_loadA aggr32 rfl hx32) ?_
      refine plan_one (j := 11) (S2 := 4095) (by decide +kernel) rfl (by decide) rfl ?_
      refine do_call2 body46 (keelsonref1_Half_s _ _ _ h) rfl ?_
      rintro _ H33 ⟨y34, rfl, h⟩
      obtain ⟨hr35, h⟩ := h
      obtain ⟨hr36, h⟩ := h
      refine ⟨_, (.inl ⟨⟨[11], by decide +kernel, rfl⟩, .inr ⟨⟨_, _, rfl, rfl, q_load scalar3 rfl hr35⟩, _, rfl, .inr ⟨⟨_, _, rfl, rfl, q_load scalar30 rfl hr36⟩, _, rfl, rfl⟩⟩⟩), ?_⟩
      refine plan_one (j := 12) (S2 := 8191) (by decide +kernel) rfl (by decide) rfl ?_
      refine do_call2 body32 (keelsonref1_Within_s _ _ _ _ _ h) rfl ?_
      rintro _ H37 ⟨y38, rfl, h⟩
      refine ⟨_, (.inl ⟨⟨[12], by decide +kernel, rfl⟩, .inl ⟨⟨[5, 6, 12], by decide +kernel, rfl⟩, rfl⟩⟩), ?_⟩
      refine plan_pure (i := 13) (d := 37) (S2 := 16383) (v := .bool (!y38)) rfl (by decide +kernel) rfl (q_not rfl) ?_
      refine plan_done (by decide +kernel) ?_
      rcases bor (!y38) with hc39 | hc39
      · have h := h.1 hc39
        refine Go.condT (btT rfl hc39) ?_
        refine Go.exit rfl ?_
        exact hj14 _ _ _ h ⟨e10_0, e10_1, e10_5, e10_6, e10_7⟩
      · have h := h.2 hc39
        refine Go.condF (btF rfl hc39) ?_
        refine Go.skip ?_
        refine Go.seq ?_
        refine Go.region rfl ?_
        refine GoOps.q (v := .int .i64 0) rfl rfl (by decide) (q_assign rfl) ?_
        refine GoOps.nil ?_
        refine Go.seq ?_
        refine Go.seq ?_
        refine Go.region rfl ?_
        refine GoOps.q (v := .int .i64 p1) rfl rfl (by decide) (q_move e10_1) ?_
        refine GoOps.q (v := .pointer p0) rfl rfl (by decide) (q_move e10_0) ?_
        obtain ⟨a40, ha41, h⟩ := h
        refine GoOps.q (v := .pointer (some a40)) rfl rfl (by decide) (q_nilCheck (ptn rfl ha41)) ?_
        refine GoOps.q (v := .pointer (some (a40.add 3))) rfl rfl (by decide) (q_fieldAddr foff64_1 rfl) ?_
        obtain ⟨x42, hx43, h⟩ := h
        refine GoOps.q (v := Sl.v x42) rfl rfl (by decide) (q_load scalar38 rfl hx43) ?_
        refine GoOps.q (v := .int .i64 x19) rfl rfl (by decide) (q_move rfl) ?_
        obtain ⟨a44, ha45, h⟩ := h
        refine GoOps.q (v := .pointer (some a44)) rfl rfl (by decide) (q_idx slice38 ha45 rfl rfl) ?_
        refine GoOps.q (v := .pointer (some (a44.add 1))) rfl rfl (by decide) (q_fieldAddr foff40_1 rfl) ?_
        obtain ⟨x46, hx47, h⟩ := h
        refine GoOps.q (v := .int .i64 x46) rfl rfl (by decide) (q_load scalar3 rfl hx47) ?_
        refine GoOps.q (v := .bool (decide (x46 < p1))) rfl rfl (by decide) (q_gtr rfl rfl) ?_
        refine GoOps.nil ?_
        refine join_go 1 (fun ρ (s48 : Int) => ρ 0 = .pointer p0 ∧ ρ 1 = .int .i64 p1 ∧ ρ 5 = .pointer (some a1) ∧ ρ 6 = Sl.v y7 ∧ ρ 7 = .int .i64 s8 ∧ ρ 8 = .int .i64 x19 ∧ ρ 9 = .int .i64 s48) h ?_ ?_ <;> clear h
        · intro s48 H50 ρ h hE
          obtain ⟨e51_0, e51_1, e51_5, e51_6, e51_7, e51_8, e51_9⟩ := hE
          refine Go.seq ?_
          refine join_go 1 (fun ρ (s52 : Addr) => ρ 0 = .pointer p0 ∧ ρ 1 = .int .i64 p1 ∧ ρ 5 = .pointer (some a1) ∧ ρ 6 = Sl.v y7 ∧ ρ 7 = .int .i64 s8 ∧ ρ 10 = .pointer (some s52)) h ?_ ?_ <;> clear h
          · intro s52 H54 ρ h hE
            obtain ⟨e55_0, e55_1, e55_5, e55_6, e55_7, e55_10⟩ := hE
            refine Go.seq ?_
            refine Go.region rfl ?_
            obtain ⟨a56, ha57, h⟩ := h
            refine GoOps.q (v := .pointer (some a56)) rfl rfl (by decide) (q_idxA array27 ha57 e55_5 rfl) ?_
            obtain ⟨x58, hx59, h⟩ := h
            refine GoOps.q (v := .int .i64 x58) rfl rfl (by decide) (q_load scalar3 rfl hx59) ?_
            refine GoOps.q (v := .bool (decide (x58 < 0))) rfl rfl (by decide) (q_lss rfl rfl) ?_
            refine GoOps.q (v := .bool (decide (x58 < 0))) rfl rfl (by decide) (q_move rfl) ?_
            refine join_ops 4 (fun ρ (s61 : Bool) => ρ 0 = .pointer p0 ∧ ρ 1 = .int .i64 p1 ∧ ρ 5 = .pointer (some a1) ∧ ρ 6 = Sl.v y7 ∧ ρ 7 = .int .i64 s8 ∧ ρ 10 = .pointer (some s52) ∧ ρ 90 = .bool s61) h ?_ ?_ <;> clear h
            · intro s61 H63 ρ h hE
              obtain ⟨e64_0, e64_1, e64_5, e64_6, e64_7, e64_10, e64_90⟩ := hE
              refine GoOps.nil ?_
              rcases bor s61 with hc65 | hc65
              · have h := h.1 hc65
                refine Go.condT (btT e64_90 hc65) ?_
                refine Go.region rfl ?_
                obtain ⟨x66, hx67, h⟩ := h
                refine GoOps.q (v := .agg ([.int .i64 x66.1, .int .i64 x66.2.1, .int .i64 x66.2.2] : List Value).toArray) rfl rfl (by decide) (q_loadA aggr27 e64_10 hx67) ?_
                obtain ⟨q69b, q69o, q69c, q69e, hq69a, hq69b, hq69l, hq69v, h⟩ := h
                refine op_none rfl rfl (do_store (vs := [.int .i64 x66.1, .int .i64 x66.2.1, .int .i64 x66.2.2]) size27 (pta e64_5 hq69a) rfl rfl rfl hq69v hq69b hq69l ?_) 
                refine GoOps.nil ?_
                refine Go.inBlock ?_
                exact hj14 _ _ _ h ⟨e64_0, e64_1, e64_5, e64_6, e64_7⟩
              · have h := h.2 hc65
                refine Go.condF (btF e64_90 hc65) ?_
                refine Go.skip ?_
                refine Go.inBlock ?_
                exact hj14 _ _ _ h ⟨e64_0, e64_1, e64_5, e64_6, e64_7⟩
            · intro j62 hj62 h
              rcases bor (decide (x58 < 0)) with hc60 | hc60
              · have h := h.1 hc60
                refine no_dst (want_no rfl rfl rfl hc60) rfl (by decide) ?_
                refine no_dst (want_no rfl rfl rfl hc60) rfl (by decide) ?_
                refine no_dst (want_no rfl rfl rfl hc60) rfl (by decide) ?_
                refine GoOps.q (v := .bool true) rfl rfl (by decide) (q_pickT (btT rfl hc60) rfl) ?_
                exact hj62 true _ _ h (by exact ⟨e55_0, e55_1, e55_5, e55_6, e55_7, e55_10, rfl⟩)
              · have h := h.2 hc60
                obtain ⟨x70, hx71, h⟩ := h
                refine GoOps.q (v := .agg ([.int .i64 x70.1, .int .i64 x70.2.1, .int .i64 x70.2.2] : List Value).toArray) (want_yes rfl rfl rfl hc60) rfl (by decide) (q_loadA aggr27 e55_10 hx71) ?_
                obtain ⟨x72, hx73, h⟩ := h
                refine GoOps.q (v := .agg ([.int .i64 x72.1, .int .i64 x72.2.1, .int .i64 x72.2.2] : List Value).toArray) (want_yes rfl rfl rfl hc60) rfl (by decide) (q_loadA aggr27 e55_5 hx73) ?_
                refine call_dst (want_yes rfl rfl rfl hc60) (by decide) body13 (keelsonref11_Better_s _ _ _ _ h) rfl ?_
                rintro _ H74 ⟨y75, rfl, h⟩
                refine GoOps.q (v := .bool y75) rfl rfl (by decide) (q_pickF (btF rfl hc60) rfl) ?_
                exact hj62 y75 _ _ h (by exact ⟨e55_0, e55_1, e55_5, e55_6, e55_7, e55_10, rfl⟩)
          · intro j53 hj53 h
            refine Go.draw mixed ?_
            refine plan_pure (i := 0) (d := 59) (S2 := 1) (v := .pointer p0) rfl (by decide +kernel) rfl (q_move e51_0) ?_
            obtain ⟨a76, ha77, h⟩ := h
            refine plan_pure (i := 1) (d := 60) (S2 := 3) (v := .pointer (some a76)) rfl (by decide +kernel) rfl (q_nilCheck (ptn rfl ha77)) ?_
            refine plan_pure (i := 2) (d := 61) (S2 := 7) (v := .pointer (some (a76.add 4))) rfl (by decide +kernel) rfl (q_fieldAddr foff64_2 rfl) ?_
            obtain ⟨x78, hx79, h⟩ := h
            refine plan_load (i := 3) (d := 62) (S2 := 15) (v := Sl.v x78) rfl (by decide +kernel) rfl (q_load scalar30 rfl hx79) ?_
            refine plan_pure (i := 4) (d := 63) (S2 := 31) (v := .int .i64 x19) rfl (by decide +kernel) rfl (q_move e51_8) ?_
            obtain ⟨a80, ha81, h⟩ := h
            refine plan_pure (i := 5) (d := 64) (S2 := 63) (v := .pointer (some a80)) rfl (by decide +kernel) rfl (q_idx slice30 ha81 rfl rfl) ?_
            obtain ⟨x82, hx83, h⟩ := h
            refine plan_load (i := 6) (d := 65) (S2 := 127) (v := .int .i64 x82) rfl (by decide +kernel) rfl (q_load scalar3 rfl hx83) ?_
            refine plan_pure (i := 7) (d := 66) (S2 := 255) (v := .int .i64 s48) rfl (by decide +kernel) rfl (q_move e51_9) ?_
            refine plan_pure (i := 8) (d := 67) (S2 := 511) (v := .pointer p0) rfl (by decide +kernel) rfl (q_move e51_0) ?_
            obtain ⟨a84, ha85, h⟩ := h
            refine plan_pure (i := 9) (d := 68) (S2 := 1023) (v := .pointer (some a84)) rfl (by decide +kernel) rfl (q_nilCheck (ptn rfl ha85)) ?_
            refine plan_pure (i := 10) (d := 69) (S2 := 2047) (v := .pointer (some (a84.add 0))) rfl (by decide +kernel) rfl (q_fieldAddr foff64_0 rfl) ?_
            refine plan_pure (i := 11) (d := 70) (S2 := 4095) (v := .pointer (some ((a84.add 0).add 2))) rfl (by decide +kernel) rfl (q_fieldAddr foff32_2 rfl) ?_
            obtain ⟨x86, hx87, h⟩ := h
            refine plan_load (i := 12) (d := 71) (S2 := 8191) (v := .int .i64 x86) rfl (by decide +kernel) rfl (q_load scalar3 rfl hx87) ?_
            refine plan_pure (i := 13) (d := 72) (S2 := 16383) (v := .int .i64 (IntKind.wrap .i64 (x86 - 2))) rfl (by decide +kernel) rfl (q_sub rfl rfl) ?_
            refine plan_pure (i := 15) (d := 74) (S2 := 49151) (v := .pointer p0) rfl (by decide +kernel) rfl (q_move e51_0) ?_
            obtain ⟨a88, ha89, h⟩ := h
            refine plan_pure (i := 16) (d := 75) (S2 := 114687) (v := .pointer (some a88)) rfl (by decide +kernel) rfl (q_nilCheck (ptn rfl ha89)) ?_
            refine plan_pure (i := 17) (d := 76) (S2 := 245759) (v := .pointer (some (a88.add 4))) rfl (by decide +kernel) rfl (q_fieldAddr foff64_2 rfl) ?_
            obtain ⟨x90, hx91, h⟩ := h
            refine plan_load (i := 18) (d := 77) (S2 := 507903) (v := Sl.v x90) rfl (by decide +kernel) rfl (q_load scalar30 rfl hx91) ?_
            refine plan_pure (i := 19) (d := 78) (S2 := 1032191) (v := .int .i64 x19) rfl (by decide +kernel) rfl (q_move e51_8) ?_
            obtain ⟨a92, ha93, h⟩ := h
            refine plan_pure (i := 20) (d := 79) (S2 := 2080767) (v := .pointer (some a92)) rfl (by decide +kernel) rfl (q_idx slice30 ha93 rfl rfl) ?_
            obtain ⟨x94, hx95, h⟩ := h
            refine plan_load (i := 21) (d := 80) (S2 := 4177919) (v := .int .i64 x94) rfl (by decide +kernel) rfl (q_load scalar3 rfl hx95) ?_
            refine plan_pure (i := 22) (d := 81) (S2 := 8372223) (v := .int .i64 x19) rfl (by decide +kernel) rfl (q_move e51_8) ?_
            refine plan_step (R := [14, 24]) (by decide +kernel) ⟨?_, ?_, trivial⟩
            · refine pstep_yes (S2 := 8388607) rfl (by decide +kernel) (by decide) rfl ?_
              refine do_call2 body9 (keelsonref11_Score_s _ _ _ _ _ h) rfl ?_
              rintro _ H96 ⟨y97, rfl, h⟩
              obtain ⟨hr98, h⟩ := h
              obtain ⟨hr99, h⟩ := h
              refine ⟨_, (.inr ⟨⟨_, _, rfl, rfl, q_load scalar3 rfl hr98⟩, _, rfl, .inr ⟨⟨_, _, rfl, rfl, q_load scalar30 rfl hr99⟩, _, rfl, .inl ⟨⟨[13, 14], by decide +kernel, rfl⟩, .inl ⟨⟨[14], by decide +kernel, rfl⟩, .inl ⟨⟨[5, 6, 14], by decide +kernel, rfl⟩, rfl⟩⟩⟩⟩⟩), ?_⟩
              refine plan_pure (i := 23) (d := 82) (S2 := 16777215) (v := .agg ([.int .i64 y97, .int .i64 x94, .int .i64 x19] : List Value).toArray) rfl (by decide +kernel) rfl (q_buildA (ps := [(0, .int .i64 y97), (1, .int .i64 x94), (2, .int .i64 x19)]) (cs := [.int .i64 y97, .int .i64 x94, .int .i64 x19]) array27 zero27 rfl rfl rfl) ?_
              refine plan_one (j := 24) (S2 := 33554431) (by decide +kernel) rfl (by decide) rfl ?_
              refine do_new zero27 rfl fun a100 H101 hb102 => ?_
              have h := h a100 H101 hb102
              obtain ⟨hr103, h⟩ := h
              obtain ⟨hr104, h⟩ := h
              refine ⟨_, (.inr ⟨⟨_, _, rfl, rfl, q_load scalar3 rfl hr103⟩, _, rfl, .inr ⟨⟨_, _, rfl, rfl, q_load scalar30 rfl hr104⟩, _, rfl, rfl⟩⟩), ?_⟩
              refine plan_one (j := 25) (S2 := 67108863) (by decide +kernel) rfl (by decide) rfl ?_
              obtain ⟨q106b, q106o, q106c, q106e, hq106a, hq106b, hq106l, hq106v, h⟩ := h
              refine do_store (vs := [.int .i64 y97, .int .i64 x94, .int .i64 x19]) size27 (pta rfl hq106a) rfl rfl rfl hq106v hq106b hq106l ?_
              refine ⟨_, (.inl ⟨⟨[25], by decide +kernel, rfl⟩, .inl ⟨⟨[25], by decide +kernel, rfl⟩, rfl⟩⟩), ?_⟩
              refine plan_done (by decide +kernel) ?_
              exact hj53 _ _ _ h ⟨e51_0, e51_1, e51_5, e51_6, e51_7, rfl⟩
            · refine pstep_yes (S2 := 25149439) rfl (by decide +kernel) (by decide) rfl ?_
              refine do_newT zero27 rfl fun b111 a110 hHb111 hTb111 hrb111 => ?_
              refine ⟨_, (.inr ⟨⟨_, _, rfl, rfl, q_load scalar3 rfl hx95⟩, _, rfl, .inr ⟨⟨_, _, rfl, rfl, q_load scalar30 rfl hx91⟩, _, rfl, .inr ⟨⟨_, _, rfl, rfl, q_load scalar3 rfl hx87⟩, _, rfl, .inr ⟨⟨_, _, rfl, rfl, q_load scalar3 rfl hx83⟩, _, rfl, .inr ⟨⟨_, _, rfl, rfl, q_load scalar30 rfl hx79⟩, _, rfl, rfl⟩⟩⟩⟩⟩), ?_⟩
              refine plan_one (j := 14) (S2 := 25165823) (by decide +kernel) rfl (by decide) rfl ?_
              refine do_call2 body9 (keelsonref11_Score_s _ _ _ _ _ h) rfl ?_
              rintro _ H112 ⟨y113, rfl, h⟩
              obtain ⟨hr114, h⟩ := h
              obtain ⟨hr115, h⟩ := h
              refine ⟨_, (.inr ⟨⟨_, _, rfl, rfl, q_load scalar3 rfl hr114⟩, _, rfl, .inr ⟨⟨_, _, rfl, rfl, q_load scalar30 rfl hr115⟩, _, rfl, .inl ⟨⟨[13, 14], by decide +kernel, rfl⟩, .inl ⟨⟨[14], by decide +kernel, rfl⟩, .inl ⟨⟨[5, 6, 14], by decide +kernel, rfl⟩, rfl⟩⟩⟩⟩⟩), ?_⟩
              refine plan_pure (i := 23) (d := 82) (S2 := 33554431) (v := .agg ([.int .i64 y113, .int .i64 x94, .int .i64 x19] : List Value).toArray) rfl (by decide +kernel) rfl (q_buildA (ps := [(0, .int .i64 y113), (1, .int .i64 x94), (2, .int .i64 x19)]) (cs := [.int .i64 y113, .int .i64 x94, .int .i64 x19]) array27 zero27 rfl rfl rfl) ?_
              refine plan_commit hTb111 fun hh117 => ?_
              have h := h a110 _ ⟨b111, hh117, hrb111, rfl⟩
              obtain ⟨hr118, h⟩ := h
              obtain ⟨hr119, h⟩ := h
              refine plan_one (j := 25) (S2 := 67108863) (by decide +kernel) rfl (by decide) rfl ?_
              obtain ⟨q121b, q121o, q121c, q121e, hq121a, hq121b, hq121l, hq121v, h⟩ := h
              refine do_store (vs := [.int .i64 y113, .int .i64 x94, .int .i64 x19]) size27 (pta rfl hq121a) rfl rfl rfl hq121v hq121b hq121l ?_
              refine ⟨_, (.inl ⟨⟨[25], by decide +kernel, rfl⟩, .inl ⟨⟨[25], by decide +kernel, rfl⟩, rfl⟩⟩), ?_⟩
              refine plan_done (by decide +kernel) ?_
              exact hj53 _ _ _ h ⟨e51_0, e51_1, e51_5, e51_6, e51_7, rfl⟩
        · intro j49 hj49 h
          rcases bor (decide (x46 < p1)) with hc122 | hc122
          · have h := h.1 hc122
            refine Go.condT (btT rfl hc122) ?_
            refine Go.region rfl ?_
            refine GoOps.q (v := .int .i64 p1) rfl rfl (by decide) (q_move e10_1) ?_
            refine GoOps.q (v := .pointer p0) rfl rfl (by decide) (q_move e10_0) ?_
            obtain ⟨a123, ha124, h⟩ := h
            refine GoOps.q (v := .pointer (some a123)) rfl rfl (by decide) (q_nilCheck (ptn rfl ha124)) ?_
            refine GoOps.q (v := .pointer (some (a123.add 3))) rfl rfl (by decide) (q_fieldAddr foff64_1 rfl) ?_
            obtain ⟨x125, hx126, h⟩ := h
            refine GoOps.q (v := Sl.v x125) rfl rfl (by decide) (q_load scalar38 rfl hx126) ?_
            refine GoOps.q (v := .int .i64 x19) rfl rfl (by decide) (q_move rfl) ?_
            obtain ⟨a127, ha128, h⟩ := h
            refine GoOps.q (v := .pointer (some a127)) rfl rfl (by decide) (q_idx slice38 ha128 rfl rfl) ?_
            refine GoOps.q (v := .pointer (some (a127.add 1))) rfl rfl (by decide) (q_fieldAddr foff40_1 rfl) ?_
            obtain ⟨x129, hx130, h⟩ := h
            refine GoOps.q (v := .int .i64 x129) rfl rfl (by decide) (q_load scalar3 rfl hx130) ?_
            refine GoOps.q (v := .int .i64 (IntKind.wrap .i64 (p1 - x129))) rfl rfl (by decide) (q_sub rfl rfl) ?_
            refine GoOps.q (v := .int .i64 (if 2147483647 < (IntKind.wrap .i64 (p1 - x129)) then 2147483647 else (IntKind.wrap .i64 (p1 - x129)))) rfl rfl (by decide) (q_min2 rfl) ?_
            refine GoOps.q (v := .int .i64 (if 2147483647 < (IntKind.wrap .i64 (p1 - x129)) then 2147483647 else (IntKind.wrap .i64 (p1 - x129)))) rfl rfl (by decide) (q_assign rfl) ?_
            refine GoOps.nil ?_
            exact hj49 _ _ _ h ⟨e10_0, e10_1, e10_5, e10_6, e10_7, rfl, rfl⟩
          · have h := h.2 hc122
            refine Go.condF (btF rfl hc122) ?_
            refine Go.skip ?_
            exact hj49 _ _ _ h ⟨e10_0, e10_1, e10_5, e10_6, e10_7, rfl, rfl⟩
  · have h := h.2 hc12
    refine Go.condF (btF rfl hc12) ?_
    refine Go.exit rfl ?_
    refine Go.seq ?_
    refine Go.region rfl ?_
    obtain ⟨a131, ha132, h⟩ := h
    refine GoOps.q (v := .pointer (some a131)) rfl rfl (by decide) (q_idxA array27 ha132 e10_5 rfl) ?_
    obtain ⟨x133, hx134, h⟩ := h
    refine GoOps.q (v := .int .i64 x133) rfl rfl (by decide) (q_load scalar3 rfl hx134) ?_
    refine GoOps.q (v := .int .i64 x133) rfl rfl (by decide) (q_assign rfl) ?_
    refine GoOps.nil ?_
    exact Go.ret ⟨.inl rfl, _, _, DOk.nil, (resOk1 Try.results23 rfl), ⟨_, rfl, h⟩⟩

/-- keelson.keelsonlaw19.VictimPicks -/
def keelsonlaw19_VictimPicks (p0 : (Int × Int × Int)) (p1 : Sl) (p2 : Sl) (p3 : Sl) (p4 : Int) (H : PH) (Q : Bool → PH → Prop) : Prop :=
  mNew H (row [.int .i64 p0.1, .int .i64 p0.2.1, .int .i64 p0.2.2] 27) fun a1 H2 =>
  mLdR (fun (x : (Int × Int × Int)) => [.int .i64 x.1, .int .i64 x.2.1, .int .i64 x.2.2]) H2 a1 3 fun x4 =>
  keelsonalike_Config (x4.1, x4.2.1, x4.2.2) false H2 fun y7 H6 =>
  mNew H6 (row [.int .i64 0, .int .i64 0, .int .i64 0] 32) fun a8 H9 =>
  mSt H9 a8 ([.int .i64 y7.1, .int .i64 y7.2.1, .int .i64 y7.2.2]) fun H11 =>
  mLdR (fun (x : (Int × Int × Int)) => [.int .i64 x.1, .int .i64 x.2.1, .int .i64 x.2.2]) H11 a8 3 fun x13 =>
  geom_New (x13.1, x13.2.1, x13.2.2) H11 fun y16 y17 H15 =>
  mJoin (fun (s19 : Bool) (H21 : PH) =>
  mJoin (fun (s24 : Bool) (H26 : PH) =>
  mJoin (fun (s29 : Bool) (H31 : PH) =>
  mJoin (fun (s34 : Bool) (H36 : PH) =>
  mIf s34
  (mJoin (fun (s40 : Bool) (H42 : PH) =>
  mJoin (fun (s45 : Bool) (H47 : PH) =>
  Q s45 H47)
  fun j46 =>
  mIf s40
  (keelsonlaw19_awake H42 fun y50 H49 =>
  j46 y50 H49)
  (j46 false H42))
  fun j41 =>
  mIf (y17 == 0)
  (j41 (!(Option.isNone y16)) H36)
  (j41 false H36))
  (mLoop (fun (s51 : Sl × Int) (H54 : PH) (again52 : (Sl × Int) → PH → Prop) =>
  mLd (.int .i64) H54 (a8.add 1) fun x55 =>
  mIf (decide (s51.2 < x55))
  (mIdx p1 1 s51.2 fun a58 =>
  mLd (.int .i64) H54 a58 fun x60 =>
  mIdx p3 1 s51.2 fun a62 =>
  mLd (.int .i64) H54 a62 fun x64 =>
  keelsonalike_Round x60 3 H54 fun y67 H66 =>
  mSame H66 a62 (.int .i64 x64) <|
  keelsonalike_Round x64 1048576 H66 fun y70 H69 =>
  mNewS H69 (row [.int .i64 y67, .int .i64 y70] 40) 1 fun r71 H72 =>
  mApp H72 40 2 16 [.int .i64 0, .int .i64 0] s51.1 r71 fun r74 H75 =>
  again52 (r74, IntKind.wrap .i64 (s51.2 + 1)) H75)
  (usage_New y16 s51.1 H54 fun y77 H76 =>
  mLdR (fun (x : (Int × Int × Int)) => [.int .i64 x.1, .int .i64 x.2.1, .int .i64 x.2.2]) H76 a8 3 fun x78 =>
  keelsonref11_NewTable (x78.1, x78.2.1, x78.2.2) s51.1 H76 fun y81 H80 =>
  mJoin (fun (s83 : Bool) (H85 : PH) =>
  mIf s83
  (Q false H85)
  (mLoop (fun (s88 : Int) (H91 : PH) (again89 : Int → PH → Prop) =>
  mLd (.int .i64) H91 (a8.add 1) fun x92 =>
  mIf (decide (s88 < x92))
  (mIdx p2 1 s88 fun a95 =>
  mLd (.int .i64) H91 a95 fun x97 =>
  mLd (.int .i64) H91 (a8.add 2) fun x99 =>
  keelsonalike_Round x97 x99 H91 fun y102 H101 =>
  geom_Geom_Seg y16 s88 H101 fun y104 H103 =>
  usage_Table_Add y77 y104 y102 H103 fun y106 H105 =>
  mLdR (fun (x : (Int × Int × Int)) => [.int .i64 x.1, .int .i64 x.2.1, .int .i64 x.2.2]) H105 a8 3 fun x107 =>
  keelsonref1_SegAt (x107.1, x107.2.1, x107.2.2) s88 H105 fun y110 H109 =>
  keelsonref11_Table_Add y81 y110 y102 H109 fun y112 H111 =>
  again89 (IntKind.wrap .i64 (s88 + 1)) H111)
  (victim_Pick y16 y77 p4 H91 fun y114 y115 H113 =>
  keelsonref11_Pick y81 p4 H113 fun y117 H116 =>
  mJoin (fun (s119 : Bool) (H121 : PH) =>
  mJoin (fun (s124 : Bool) (H126 : PH) =>
  mJoin (fun (s129 : Bool) (H131 : PH) =>
  Q s129 H131)
  fun j130 =>
  mIf s124
  (keelsonlaw19_awake H126 fun y134 H133 =>
  j130 y134 H133)
  (j130 false H126))
  fun j125 =>
  mIf s119
  (mJoin (fun (s136 : Bool) (H138 : PH) =>
  j125 s136 H138)
  fun j137 =>
  mIf y115
  (j137 true H121)
  (j137 (y114 == 0) H121))
  (j125 false H121))
  fun j120 =>
  mIf (y115 == (decide (0 ≤ y117)))
  (mJoin (fun (s141 : Bool) (H143 : PH) =>
  j120 s141 H143)
  fun j142 =>
  mIf (!y115)
  (j142 true H116)
  (j142 (y114 == y117) H116))
  (j120 false H116)))
  0 H85))
  fun j84 =>
  mIf (Option.isNone y77)
  (j84 true H80)
  (j84 (Option.isNone y81) H80)))
  (Sl.nil, 0) H36))
  fun j35 =>
  mIf s29
  (j35 true H31)
  (mLd (.int .i64) H31 (a8.add 1) fun x145 =>
  j35 (decide ((p3.len : Int) < x145)) H31))
  fun j30 =>
  mIf s24
  (j30 true H26)
  (mLd (.int .i64) H26 (a8.add 1) fun x147 =>
  j30 (decide ((p2.len : Int) < x147)) H26))
  fun j25 =>
  mIf s19
  (j25 true H21)
  (mLd (.int .i64) H21 (a8.add 1) fun x149 =>
  j25 (decide ((p1.len : Int) < x149)) H21))
  fun j20 =>
  mIf (y17 != 0)
  (j20 true H15)
  (j20 (Option.isNone y16) H15)

set_option maxRecDepth 20000 in
set_option maxHeartbeats 1000000 in
theorem keelsonlaw19_VictimPicks_s (p0 : (Int × Int × Int)) (p1 : Sl) (p2 : Sl) (p3 : Sl) (p4 : Int) (H : PH) (Q : Bool → PH → Prop) (h : keelsonlaw19_VictimPicks p0 p1 p2 p3 p4 H Q) :
    CallsH Try.prog 6 #[.agg ([.int .i64 p0.1, .int .i64 p0.2.1, .int .i64 p0.2.2] : List Value).toArray, Sl.v p1, Sl.v p2, Sl.v p3, .int .i64 p4] H (fun v H' => ∃ (r0 : Bool), v = .bool r0 ∧ Q r0 H') := by
  unfold keelsonlaw19_VictimPicks at h
  refine callsH_of_go Try.func6 rfl Try.ntmps6 (Nat.le_of_ble_eq_true rfl) ?_
  refine Go.seq ?_
  refine Go.region rfl ?_
  refine op_dst rfl rfl (by decide) (do_newBox (cs := [.int .i64 p0.1, .int .i64 p0.2.1, .int .i64 p0.2.2]) rfl rfl fun a1 H2 hb3 => ?_) 
  have h := h a1 H2 hb3
  refine GoOps.q (v := .bool false) rfl rfl (by decide) (q_assign rfl) ?_
  refine GoOps.nil ?_
  refine Go.seq ?_
  refine Go.region rfl ?_
  obtain ⟨x4, hx5, h⟩ := h
  refine GoOps.q (v := .agg ([.int .i64 x4.1, .int .i64 x4.2.1, .int .i64 x4.2.2] : List Value).toArray) rfl rfl (by decide) (q_loadA aggr27 rfl hx5) ?_
  refine call_dst rfl (by decide) body14 (keelsonalike_Config_s _ _ _ _ h) rfl ?_
  rintro _ H6 ⟨y7, rfl, h⟩
  refine op_dst rfl rfl (by decide) (do_new zero32 rfl fun a8 H9 hb10 => ?_) 
  have h := h a8 H9 hb10
  obtain ⟨q12b, q12o, q12c, q12e, hq12a, hq12b, hq12l, hq12v, h⟩ := h
  refine op_none rfl rfl (do_store (vs := [.int .i64 y7.1, .int .i64 y7.2.1, .int .i64 y7.2.2]) size32 (pta rfl hq12a) rfl rfl rfl hq12v hq12b hq12l ?_) 
  refine GoOps.nil ?_
  refine Go.seq ?_
  refine Go.region rfl ?_
  obtain ⟨x13, hx14, h⟩ := h
  refine GoOps.q (v := .agg ([.int .i64 x13.1, .int .i64 x13.2.1, .int .i64 x13.2.2] : List Value).toArray) rfl rfl (by decide) (q_loadA aggr32 rfl hx14) ?_
  refine call_dst rfl (by decide) body15 (geom_New_s _ _ _ h) rfl ?_
  rintro _ H15 ⟨y16, y17, rfl, h⟩
  refine GoOps.q (v := .tuple #[.pointer y16, .int .i64 y17]) rfl rfl (by decide) (q_move rfl) ?_
  refine GoOps.q (v := .pointer y16) rfl rfl (by decide) (q_extract rfl rfl) ?_
  refine GoOps.q (v := .int .i64 y17) rfl rfl (by decide) (q_extract rfl rfl) ?_
  refine GoOps.q (v := .pointer y16) rfl rfl (by decide) (q_assign rfl) ?_
  refine GoOps.q (v := .int .i64 y17) rfl rfl (by decide) (q_assign rfl) ?_
  refine GoOps.nil ?_
  refine Go.seq ?_
  refine Go.seq ?_
  refine Go.region rfl ?_
  refine GoOps.q (v := .int .i64 y17) rfl rfl (by decide) (q_move rfl) ?_
  refine GoOps.q (v := .bool (y17 != 0)) rfl rfl (by decide) (q_neq rfl rfl) ?_
  refine GoOps.q (v := .bool (y17 != 0)) rfl rfl (by decide) (q_move rfl) ?_
  refine join_ops 3 (fun ρ (s19 : Bool) => ρ 1 = Sl.v p1 ∧ ρ 2 = Sl.v p2 ∧ ρ 3 = Sl.v p3 ∧ ρ 4 = .int .i64 p4 ∧ ρ 11 = .pointer (some a8) ∧ ρ 12 = .pointer y16 ∧ ρ 13 = .int .i64 y17 ∧ ρ 35 = .bool s19) h ?_ ?_ <;> clear h
  · intro s19 H21 ρ h hE
    obtain ⟨e22_1, e22_2, e22_3, e22_4, e22_11, e22_12, e22_13, e22_35⟩ := hE
    refine GoOps.q (v := .bool s19) rfl rfl (by decide) (q_move e22_35) ?_
    refine join_ops 6 (fun ρ (s24 : Bool) => ρ 1 = Sl.v p1 ∧ ρ 2 = Sl.v p2 ∧ ρ 3 = Sl.v p3 ∧ ρ 4 = .int .i64 p4 ∧ ρ 11 = .pointer (some a8) ∧ ρ 12 = .pointer y16 ∧ ρ 13 = .int .i64 y17 ∧ ρ 42 = .bool s24) h ?_ ?_ <;> clear h
    · intro s24 H26 ρ h hE
      obtain ⟨e27_1, e27_2, e27_3, e27_4, e27_11, e27_12, e27_13, e27_42⟩ := hE
      refine GoOps.q (v := .bool s24) rfl rfl (by decide) (q_move e27_42) ?_
      refine join_ops 6 (fun ρ (s29 : Bool) => ρ 1 = Sl.v p1 ∧ ρ 2 = Sl.v p2 ∧ ρ 3 = Sl.v p3 ∧ ρ 4 = .int .i64 p4 ∧ ρ 11 = .pointer (some a8) ∧ ρ 12 = .pointer y16 ∧ ρ 13 = .int .i64 y17 ∧ ρ 49 = .bool s29) h ?_ ?_ <;> clear h
      · intro s29 H31 ρ h hE
        obtain ⟨e32_1, e32_2, e32_3, e32_4, e32_11, e32_12, e32_13, e32_49⟩ := hE
        refine GoOps.q (v := .bool s29) rfl rfl (by decide) (q_move e32_49) ?_
        refine join_ops 6 (fun ρ (s34 : Bool) => ρ 1 = Sl.v p1 ∧ ρ 2 = Sl.v p2 ∧ ρ 3 = Sl.v p3 ∧ ρ 4 = .int .i64 p4 ∧ ρ 11 = .pointer (some a8) ∧ ρ 12 = .pointer y16 ∧ ρ 13 = .int .i64 y17 ∧ ρ 56 = .bool s34) h ?_ ?_ <;> clear h
        · intro s34 H36 ρ h hE
          obtain ⟨e37_1, e37_2, e37_3, e37_4, e37_11, e37_12, e37_13, e37_56⟩ := hE
          refine GoOps.nil ?_
          rcases bor s34 with hc38 | hc38
          · have h := h.1 hc38
            refine Go.condT (btT e37_56 hc38) ?_
            refine Go.seq ?_
            refine Go.region rfl ?_
            refine GoOps.q (v := .int .i64 y17) rfl rfl (by decide) (q_move e37_13) ?_
            refine GoOps.q (v := .bool (y17 == 0)) rfl rfl (by decide) (q_eql rfl rfl) ?_
            refine GoOps.q (v := .bool (y17 == 0)) rfl rfl (by decide) (q_move rfl) ?_
            refine join_ops 3 (fun ρ (s40 : Bool) => ρ 62 = .bool s40) h ?_ ?_ <;> clear h
            · intro s40 H42 ρ h hE
              have e43_62 := hE
              refine GoOps.q (v := .bool s40) rfl rfl (by decide) (q_move e43_62) ?_
              refine join_ops 2 (fun ρ (s45 : Bool) => ρ 65 = .bool s45) h ?_ ?_ <;> clear h
              · intro s45 H47 ρ h hE
                have e48_65 := hE
                refine GoOps.q (v := .bool s45) rfl rfl (by decide) (q_assign e48_65) ?_
                refine GoOps.nil ?_
                exact Go.ret ⟨.inl rfl, _, _, DOk.nil, (resOk1 Try.results6 rfl), ⟨_, rfl, h⟩⟩
              · intro j46 hj46 h
                rcases bor s40 with hc44 | hc44
                · have h := h.1 hc44
                  refine call_dst (want_yes rfl rfl rfl hc44) (by decide) body10 (keelsonlaw19_awake_s _ _ h) rfl ?_
                  rintro _ H49 ⟨y50, rfl, h⟩
                  refine GoOps.q (v := .bool y50) rfl rfl (by decide) (q_pickT (btT rfl hc44) rfl) ?_
                  exact hj46 y50 _ _ h (by exact rfl)
                · have h := h.2 hc44
                  refine no_dst (want_no rfl rfl rfl hc44) rfl (by decide) ?_
                  refine GoOps.q (v := .bool false) rfl rfl (by decide) (q_pickF (btF rfl hc44) rfl) ?_
                  exact hj46 false _ _ h (by exact rfl)
            · intro j41 hj41 h
              rcases bor (y17 == 0) with hc39 | hc39
              · have h := h.1 hc39
                refine GoOps.q (v := .pointer y16) (want_yes rfl rfl rfl hc39) rfl (by decide) (q_move e37_12) ?_
                refine GoOps.q (v := .bool (!(Option.isNone y16))) (want_yes rfl rfl rfl hc39) rfl (by decide) (q_neqPn Try.underlying34 rfl rfl) ?_
                refine GoOps.q (v := .bool (!(Option.isNone y16))) rfl rfl (by decide) (q_pickT (btT rfl hc39) rfl) ?_
                exact hj41 (!(Option.isNone y16)) _ _ h (by exact rfl)
              · have h := h.2 hc39
                refine no_dst (want_no rfl rfl rfl hc39) rfl (by decide) ?_
                refine no_dst (want_no rfl rfl rfl hc39) rfl (by decide) ?_
                refine GoOps.q (v := .bool false) rfl rfl (by decide) (q_pickF (btF rfl hc39) rfl) ?_
                exact hj41 false _ _ h (by exact rfl)
          · have h := h.2 hc38
            refine Go.condF (btF e37_56 hc38) ?_
            refine Go.skip ?_
            refine Go.seq ?_
            refine Go.region rfl ?_
            refine GoOps.q (v := Sl.v Sl.nil) rfl rfl (by decide) (q_assign rfl) ?_
            refine GoOps.nil ?_
            refine Go.seq ?_
            refine Go.seq ?_
            refine Go.region rfl ?_
            refine GoOps.q (v := .int .i64 0) rfl rfl (by decide) (q_assign rfl) ?_
            refine GoOps.nil ?_
            refine Go.block ?_
            refine loop_go (fun ρ (s51 : Sl × Int) => ρ 1 = Sl.v p1 ∧ ρ 2 = Sl.v p2 ∧ ρ 3 = Sl.v p3 ∧ ρ 4 = .int .i64 p4 ∧ ρ 11 = .pointer (some a8) ∧ ρ 12 = .pointer y16 ∧ ρ 14 = Sl.v s51.1 ∧ ρ 15 = .int .i64 s51.2) h ⟨e37_1, e37_2, e37_3, e37_4, e37_11, e37_12, rfl, rfl⟩ ?_
            clear h
            intro ρ s51 H54 again52 hE h hagain52
            obtain ⟨e53_1, e53_2, e53_3, e53_4, e53_11, e53_12, e53_14, e53_15⟩ := hE
            refine Go.seq ?_
            refine Go.seq ?_
            refine Go.region rfl ?_
            refine GoOps.q (v := .int .i64 s51.2) rfl rfl (by decide) (q_move e53_15) ?_
            refine GoOps.q (v := .pointer (some (a8.add 1))) rfl rfl (by decide) (q_fieldAddr foff32_1 e53_11) ?_
            obtain ⟨x55, hx56, h⟩ := h
            refine GoOps.q (v := .int .i64 x55) rfl rfl (by decide) (q_load scalar3 rfl hx56) ?_
            refine GoOps.q (v := .bool (decide (s51.2 < x55))) rfl rfl (by decide) (q_lss rfl rfl) ?_
            refine GoOps.nil ?_
            rcases bor (decide (s51.2 < x55)) with hc57 | hc57
            · have h := h.1 hc57
              refine Go.condT (btT rfl hc57) ?_
              refine Go.skip ?_
              refine Go.seq ?_
              refine Go.block ?_
              refine Go.draw mixed ?_
              refine plan_pure (i := 0) (d := 72) (S2 := 1) (v := Sl.v s51.1) rfl (by decide +kernel) rfl (q_move e53_14) ?_
              refine plan_pure (i := 1) (d := 73) (S2 := 3) (v := Sl.v p1) rfl (by decide +kernel) rfl (q_move e53_1) ?_
              refine plan_pure (i := 2) (d := 74) (S2 := 7) (v := .int .i64 s51.2) rfl (by decide +kernel) rfl (q_move e53_15) ?_
              obtain ⟨a58, ha59, h⟩ := h
              refine plan_pure (i := 3) (d := 75) (S2 := 15) (v := .pointer (some a58)) rfl (by decide +kernel) rfl (q_idx slice30 ha59 rfl rfl) ?_
              obtain ⟨x60, hx61, h⟩ := h
              refine plan_load (i := 4) (d := 76) (S2 := 31) (v := .int .i64 x60) rfl (by decide +kernel) rfl (q_load scalar3 rfl hx61) ?_
              refine plan_pure (i := 6) (d := 78) (S2 := 95) (v := Sl.v p3) rfl (by decide +kernel) rfl (q_move e53_3) ?_
              refine plan_pure (i := 7) (d := 79) (S2 := 223) (v := .int .i64 s51.2) rfl (by decide +kernel) rfl (q_move e53_15) ?_
              obtain ⟨a62, ha63, h⟩ := h
              refine plan_pure (i := 8) (d := 80) (S2 := 479) (v := .pointer (some a62)) rfl (by decide +kernel) rfl (q_idx slice30 ha63 rfl rfl) ?_
              obtain ⟨x64, hx65, h⟩ := h
              refine plan_load (i := 9) (d := 81) (S2 := 991) (v := .int .i64 x64) rfl (by decide +kernel) rfl (q_load scalar3 rfl hx65) ?_
              refine plan_one (j := 5) (S2 := 1023) (by decide +kernel) rfl (by decide) rfl ?_
              refine do_call2 body11 (keelsonalike_Round_s _ _ _ _ h) rfl ?_
              rintro _ H66 ⟨y67, rfl, h⟩
              obtain ⟨hr68, h⟩ := h
              refine ⟨_, (.inr ⟨⟨_, _, rfl, rfl, q_load scalar3 rfl hr68⟩, _, rfl, .inl ⟨⟨[5], by decide +kernel, rfl⟩, rfl⟩⟩), ?_⟩
              refine plan_one (j := 10) (S2 := 2047) (by decide +kernel) rfl (by decide) rfl ?_
              refine do_call2 body11 (keelsonalike_Round_s _ _ _ _ h) rfl ?_
              rintro _ H69 ⟨y70, rfl, h⟩
              refine ⟨_, (.inl ⟨⟨[10], by decide +kernel, rfl⟩, rfl⟩), ?_⟩
              refine plan_pure (i := 11) (d := 83) (S2 := 4095) (v := .agg ([.int .i64 y67, .int .i64 y70] : List Value).toArray) rfl (by decide +kernel) rfl (q_build (ps := [(0, .int .i64 y67), (1, .int .i64 y70)]) (cs := [.int .i64 y67, .int .i64 y70]) places40 zero40 rfl rfl rfl) ?_
              refine plan_one (j := 12) (S2 := 8191) (by decide +kernel) rfl (by decide) rfl ?_
              refine do_bs (ps := [(0, .agg ([.int .i64 y67, .int .i64 y70] : List Value).toArray)]) (zs := [.int .i64 0, .int .i64 0]) (cs := [.int .i64 y67, .int .i64 y70]) slice38 zero40 rfl rfl (by decide) (by decide) rfl (fillS_cat (tot := 2) (css := [[.int .i64 y67, .int .i64 y70]]) (.cons rfl rfl rfl (.nil rfl)) rfl) fun r71 H72 hb73 => ?_
              have h := h r71 H72 hb73
              refine ⟨_, rfl, ?_⟩
              refine plan_one (j := 13) (S2 := 16383) (by decide +kernel) rfl (by decide) rfl ?_
              refine do_append (zs := [.int .i64 0, .int .i64 0]) slice38 bytes40 (by decide) zero40 rfl rfl (by decide) rfl rfl Try.underlying38 rfl h fun r74 H75 h => ?_
              refine ⟨_, rfl, ?_⟩
              refine plan_one (j := 14) (S2 := 32767) (by decide +kernel) rfl (by decide) rfl ?_
              refine OpQ.do (v := Sl.v r74) (q_assign rfl) ⟨_, rfl, ?_⟩
              refine plan_done (by decide +kernel) ?_
              refine Go.inBlock ?_
              refine Go.region rfl ?_
              refine GoOps.q (v := .int .i64 s51.2) rfl rfl (by decide) (q_move e53_15) ?_
              refine GoOps.q (v := .int .i64 (IntKind.wrap .i64 (s51.2 + 1))) rfl rfl (by decide) (q_add rfl rfl) ?_
              refine GoOps.q (v := .int .i64 (IntKind.wrap .i64 (s51.2 + 1))) rfl rfl (by decide) (q_assign rfl) ?_
              refine GoOps.nil ?_
              exact hagain52 _ _ _ h ⟨e53_1, e53_2, e53_3, e53_4, e53_11, e53_12, rfl, rfl⟩
            · have h := h.2 hc57
              refine Go.condF (btF rfl hc57) ?_
              refine Go.exit rfl ?_
              refine Go.seq ?_
              refine Go.region rfl ?_
              refine GoOps.q (v := .pointer y16) rfl rfl (by decide) (q_move e53_12) ?_
              refine GoOps.q (v := Sl.v s51.1) rfl rfl (by decide) (q_move e53_14) ?_
              refine call_dst rfl (by decide) body16 (usage_New_s _ _ _ _ h) rfl ?_
              rintro _ H76 ⟨y77, rfl, h⟩
              refine GoOps.q (v := .pointer y77) rfl rfl (by decide) (q_assign rfl) ?_
              refine GoOps.nil ?_
              refine Go.seq ?_
              refine Go.region rfl ?_
              obtain ⟨x78, hx79, h⟩ := h
              refine GoOps.q (v := .agg ([.int .i64 x78.1, .int .i64 x78.2.1, .int .i64 x78.2.2] : List Value).toArray) rfl rfl (by decide) (q_loadA aggr32 e53_11 hx79) ?_
              refine GoOps.q (v := Sl.v s51.1) rfl rfl (by decide) (q_move e53_14) ?_
              refine call_dst rfl (by decide) body17 (keelsonref11_NewTable_s _ _ _ _ h) rfl ?_
              rintro _ H80 ⟨y81, rfl, h⟩
              refine GoOps.q (v := .pointer y81) rfl rfl (by decide) (q_assign rfl) ?_
              refine GoOps.nil ?_
              refine Go.seq ?_
              refine Go.seq ?_
              refine Go.region rfl ?_
              refine GoOps.q (v := .pointer y77) rfl rfl (by decide) (q_move rfl) ?_
              refine GoOps.q (v := .bool (Option.isNone y77)) rfl rfl (by decide) (q_eqlPn Try.underlying41 rfl rfl) ?_
              refine GoOps.q (v := .bool (Option.isNone y77)) rfl rfl (by decide) (q_move rfl) ?_
              refine join_ops 3 (fun ρ (s83 : Bool) => ρ 2 = Sl.v p2 ∧ ρ 4 = .int .i64 p4 ∧ ρ 11 = .pointer (some a8) ∧ ρ 12 = .pointer y16 ∧ ρ 16 = .pointer y77 ∧ ρ 17 = .pointer y81 ∧ ρ 97 = .bool s83) h ?_ ?_ <;> clear h
              · intro s83 H85 ρ h hE
                obtain ⟨e86_2, e86_4, e86_11, e86_12, e86_16, e86_17, e86_97⟩ := hE
                refine GoOps.nil ?_
                rcases bor s83 with hc87 | hc87
                · have h := h.1 hc87
                  refine Go.condT (btT e86_97 hc87) ?_
                  refine Go.seq ?_
                  refine Go.region rfl ?_
                  refine GoOps.q (v := .bool false) rfl rfl (by decide) (q_assign rfl) ?_
                  refine GoOps.nil ?_
                  exact Go.ret ⟨.inl rfl, _, _, DOk.nil, (resOk1 Try.results6 rfl), ⟨_, rfl, h⟩⟩
                · have h := h.2 hc87
                  refine Go.condF (btF e86_97 hc87) ?_
                  refine Go.skip ?_
                  refine Go.seq ?_
                  refine Go.seq ?_
                  refine Go.region rfl ?_
                  refine GoOps.q (v := .int .i64 0) rfl rfl (by decide) (q_assign rfl) ?_
                  refine GoOps.nil ?_
                  refine Go.block ?_
                  refine loop_go (fun ρ (s88 : Int) => ρ 2 = Sl.v p2 ∧ ρ 4 = .int .i64 p4 ∧ ρ 11 = .pointer (some a8) ∧ ρ 12 = .pointer y16 ∧ ρ 16 = .pointer y77 ∧ ρ 17 = .pointer y81 ∧ ρ 18 = .int .i64 s88) h ⟨e86_2, e86_4, e86_11, e86_12, e86_16, e86_17, rfl⟩ ?_
                  clear h
                  intro ρ s88 H91 again89 hE h hagain89
                  obtain ⟨e90_2, e90_4, e90_11, e90_12, e90_16, e90_17, e90_18⟩ := hE
                  refine Go.seq ?_
                  refine Go.seq ?_
                  refine Go.region rfl ?_
                  refine GoOps.q (v := .int .i64 s88) rfl rfl (by decide) (q_move e90_18) ?_
                  refine GoOps.q (v := .pointer (some (a8.add 1))) rfl rfl (by decide) (q_fieldAddr foff32_1 e90_11) ?_
                  obtain ⟨x92, hx93, h⟩ := h
                  refine GoOps.q (v := .int .i64 x92) rfl rfl (by decide) (q_load scalar3 rfl hx93) ?_
                  refine GoOps.q (v := .bool (decide (s88 < x92))) rfl rfl (by decide) (q_lss rfl rfl) ?_
                  refine GoOps.nil ?_
                  rcases bor (decide (s88 < x92)) with hc94 | hc94
                  · have h := h.1 hc94
                    refine Go.condT (btT rfl hc94) ?_
                    refine Go.skip ?_
                    refine Go.seq ?_
                    refine Go.block ?_
                    refine Go.seq ?_
                    refine Go.draw mixed ?_
                    refine plan_pure (i := 0) (d := 104) (S2 := 1) (v := Sl.v p2) rfl (by decide +kernel) rfl (q_move e90_2) ?_
                    refine plan_pure (i := 1) (d := 105) (S2 := 3) (v := .int .i64 s88) rfl (by decide +kernel) rfl (q_move e90_18) ?_
                    obtain ⟨a95, ha96, h⟩ := h
                    refine plan_pure (i := 2) (d := 106) (S2 := 7) (v := .pointer (some a95)) rfl (by decide +kernel) rfl (q_idx slice30 ha96 rfl rfl) ?_
                    obtain ⟨x97, hx98, h⟩ := h
                    refine plan_load (i := 3) (d := 107) (S2 := 15) (v := .int .i64 x97) rfl (by decide +kernel) rfl (q_load scalar3 rfl hx98) ?_
                    refine plan_pure (i := 4) (d := 108) (S2 := 31) (v := .pointer (some (a8.add 2))) rfl (by decide +kernel) rfl (q_fieldAddr foff32_2 e90_11) ?_
                    obtain ⟨x99, hx100, h⟩ := h
                    refine plan_load (i := 5) (d := 109) (S2 := 63) (v := .int .i64 x99) rfl (by decide +kernel) rfl (q_load scalar3 rfl hx100) ?_
                    refine plan_one (j := 6) (S2 := 127) (by decide +kernel) rfl (by decide) rfl ?_
                    refine do_call2 body11 (keelsonalike_Round_s _ _ _ _ h) rfl ?_
                    rintro _ H101 ⟨y102, rfl, h⟩
                    refine ⟨_, (.inl ⟨⟨[6], by decide +kernel, rfl⟩, .inl ⟨⟨[6], by decide +kernel, rfl⟩, rfl⟩⟩), ?_⟩
                    refine plan_pure (i := 7) (d := 19) (S2 := 255) (v := .int .i64 y102) rfl (by decide +kernel) rfl (q_assign rfl) ?_
                    refine plan_done (by decide +kernel) ?_
                    refine Go.seq ?_
                    refine Go.region rfl ?_
                    refine GoOps.q (v := .pointer y77) rfl rfl (by decide) (q_move e90_16) ?_
                    refine GoOps.q (v := .pointer y16) rfl rfl (by decide) (q_move e90_12) ?_
                    refine GoOps.q (v := .int .i64 s88) rfl rfl (by decide) (q_move e90_18) ?_
                    refine call_dst rfl (by decide) body19 (geom_Geom_Seg_s _ _ _ _ h) rfl ?_
                    rintro _ H103 ⟨y104, rfl, h⟩
                    refine GoOps.q (v := .int .i64 y102) rfl rfl (by decide) (q_move rfl) ?_
                    refine call_dst rfl (by decide) body18 (usage_Table_Add_s _ _ _ _ _ h) rfl ?_
                    rintro _ H105 ⟨y106, rfl, h⟩
                    refine GoOps.nil ?_
                    refine Go.region rfl ?_
                    refine GoOps.q (v := .pointer y81) rfl rfl (by decide) (q_move e90_17) ?_
                    obtain ⟨x107, hx108, h⟩ := h
                    refine GoOps.q (v := .agg ([.int .i64 x107.1, .int .i64 x107.2.1, .int .i64 x107.2.2] : List Value).toArray) rfl rfl (by decide) (q_loadA aggr32 e90_11 hx108) ?_
                    refine GoOps.q (v := .int .i64 s88) rfl rfl (by decide) (q_move e90_18) ?_
                    refine call_dst rfl (by decide) body21 (keelsonref1_SegAt_s _ _ _ _ h) rfl ?_
                    rintro _ H109 ⟨y110, rfl, h⟩
                    refine GoOps.q (v := .int .i64 y102) rfl rfl (by decide) (q_move rfl) ?_
                    refine call_dst rfl (by decide) body20 (keelsonref11_Table_Add_s _ _ _ _ _ h) rfl ?_
                    rintro _ H111 ⟨y112, rfl, h⟩
                    refine GoOps.nil ?_
                    refine Go.inBlock ?_
                    refine Go.region rfl ?_
                    refine GoOps.q (v := .int .i64 s88) rfl rfl (by decide) (q_move e90_18) ?_
                    refine GoOps.q (v := .int .i64 (IntKind.wrap .i64 (s88 + 1))) rfl rfl (by decide) (q_add rfl rfl) ?_
                    refine GoOps.q (v := .int .i64 (IntKind.wrap .i64 (s88 + 1))) rfl rfl (by decide) (q_assign rfl) ?_
                    refine GoOps.nil ?_
                    exact hagain89 _ _ _ h ⟨e90_2, e90_4, e90_11, e90_12, e90_16, e90_17, rfl⟩
                  · have h := h.2 hc94
                    refine Go.condF (btF rfl hc94) ?_
                    refine Go.exit rfl ?_
                    refine Go.seq ?_
                    refine Go.region rfl ?_
                    refine GoOps.q (v := .pointer y16) rfl rfl (by decide) (q_move e90_12) ?_
                    refine GoOps.q (v := .pointer y77) rfl rfl (by decide) (q_move e90_16) ?_
                    refine GoOps.q (v := .int .i64 p4) rfl rfl (by decide) (q_move e90_4) ?_
                    refine call_dst rfl (by decide) body22 (victim_Pick_s _ _ _ _ _ h) rfl ?_
                    rintro _ H113 ⟨y114, y115, rfl, h⟩
                    refine GoOps.q (v := .tuple #[.int .i64 y114, .bool y115]) rfl rfl (by decide) (q_move rfl) ?_
                    refine GoOps.q (v := .int .i64 y114) rfl rfl (by decide) (q_extract rfl rfl) ?_
                    refine GoOps.q (v := .bool y115) rfl rfl (by decide) (q_extract rfl rfl) ?_
                    refine GoOps.q (v := .int .i64 y114) rfl rfl (by decide) (q_assign rfl) ?_
                    refine GoOps.q (v := .bool y115) rfl rfl (by decide) (q_assign rfl) ?_
                    refine GoOps.nil ?_
                    refine Go.seq ?_
                    refine Go.region rfl ?_
                    refine GoOps.q (v := .pointer y81) rfl rfl (by decide) (q_move e90_17) ?_
                    refine GoOps.q (v := .int .i64 p4) rfl rfl (by decide) (q_move e90_4) ?_
                    refine call_dst rfl (by decide) body23 (keelsonref11_Pick_s _ _ _ _ h) rfl ?_
                    rintro _ H116 ⟨y117, rfl, h⟩
                    refine GoOps.q (v := .int .i64 y117) rfl rfl (by decide) (q_assign rfl) ?_
                    refine GoOps.nil ?_
                    refine Go.seq ?_
                    refine Go.region rfl ?_
                    refine GoOps.q (v := .bool y115) rfl rfl (by decide) (q_move rfl) ?_
                    refine GoOps.q (v := .int .i64 y117) rfl rfl (by decide) (q_move rfl) ?_
                    refine GoOps.q (v := .bool (decide (0 ≤ y117))) rfl rfl (by decide) (q_geq rfl rfl) ?_
                    refine GoOps.q (v := .bool (y115 == (decide (0 ≤ y117)))) rfl rfl (by decide) (q_eqlB Try.underlying4 rfl rfl) ?_
                    refine GoOps.q (v := .bool (y115 == (decide (0 ≤ y117)))) rfl rfl (by decide) (q_move rfl) ?_
                    refine join_ops 8 (fun ρ (s119 : Bool) => ρ 20 = .int .i64 y114 ∧ ρ 21 = .bool y115 ∧ ρ 145 = .bool s119) h ?_ ?_ <;> clear h
                    · intro s119 H121 ρ h hE
                      obtain ⟨e122_20, e122_21, e122_145⟩ := hE
                      refine GoOps.q (v := .bool s119) rfl rfl (by decide) (q_move e122_145) ?_
                      refine join_ops 6 (fun ρ (s124 : Bool) => ρ 152 = .bool s124) h ?_ ?_ <;> clear h
                      · intro s124 H126 ρ h hE
                        have e127_152 := hE
                        refine GoOps.q (v := .bool s124) rfl rfl (by decide) (q_move e127_152) ?_
                        refine join_ops 2 (fun ρ (s129 : Bool) => ρ 155 = .bool s129) h ?_ ?_ <;> clear h
                        · intro s129 H131 ρ h hE
                          have e132_155 := hE
                          refine GoOps.q (v := .bool s129) rfl rfl (by decide) (q_assign e132_155) ?_
                          refine GoOps.nil ?_
                          exact Go.ret ⟨.inl rfl, _, _, DOk.nil, (resOk1 Try.results6 rfl), ⟨_, rfl, h⟩⟩
                        · intro j130 hj130 h
                          rcases bor s124 with hc128 | hc128
                          · have h := h.1 hc128
                            refine call_dst (want_yes rfl rfl rfl hc128) (by decide) body10 (keelsonlaw19_awake_s _ _ h) rfl ?_
                            rintro _ H133 ⟨y134, rfl, h⟩
                            refine GoOps.q (v := .bool y134) rfl rfl (by decide) (q_pickT (btT rfl hc128) rfl) ?_
                            exact hj130 y134 _ _ h (by exact rfl)
                          · have h := h.2 hc128
                            refine no_dst (want_no rfl rfl rfl hc128) rfl (by decide) ?_
                            refine GoOps.q (v := .bool false) rfl rfl (by decide) (q_pickF (btF rfl hc128) rfl) ?_
                            exact hj130 false _ _ h (by exact rfl)
                      · intro j125 hj125 h
                        rcases bor s119 with hc123 | hc123
                        · have h := h.1 hc123
                          refine GoOps.q (v := .bool y115) (want_yes rfl rfl rfl hc123) rfl (by decide) (q_move e122_21) ?_
                          refine GoOps.q (v := .bool y115) (want_yes rfl rfl rfl hc123) rfl (by decide) (q_move rfl) ?_
                          refine join_ops 3 (fun ρ (s136 : Bool) => ρ 146 = .bool s119 ∧ ρ 151 = .bool s136) h ?_ ?_ <;> clear h
                          · intro s136 H138 ρ h hE
                            obtain ⟨e139_146, e139_151⟩ := hE
                            refine GoOps.q (v := .bool s136) rfl rfl (by decide) (q_pickT (btT e139_146 hc123) e139_151) ?_
                            exact hj125 s136 _ _ h (by exact rfl)
                          · intro j137 hj137 h
                            rcases bor y115 with hc135 | hc135
                            · have h := h.1 hc135
                              refine no_dst (want_no rfl rfl rfl hc135) rfl (by decide) ?_
                              refine no_dst (want_no rfl rfl rfl hc135) rfl (by decide) ?_
                              refine GoOps.q (v := .bool true) (want_yes rfl rfl rfl hc123) rfl (by decide) (q_pickT (btT rfl hc135) rfl) ?_
                              exact hj137 true _ _ h (by exact ⟨rfl, rfl⟩)
                            · have h := h.2 hc135
                              refine GoOps.q (v := .int .i64 y114) (want_yes rfl rfl rfl hc135) rfl (by decide) (q_move e122_20) ?_
                              refine GoOps.q (v := .bool (y114 == 0)) (want_yes rfl rfl rfl hc135) rfl (by decide) (q_eql rfl rfl) ?_
                              refine GoOps.q (v := .bool (y114 == 0)) (want_yes rfl rfl rfl hc123) rfl (by decide) (q_pickF (btF rfl hc135) rfl) ?_
                              exact hj137 (y114 == 0) _ _ h (by exact ⟨rfl, rfl⟩)
                        · have h := h.2 hc123
                          refine no_dst (want_no rfl rfl rfl hc123) rfl (by decide) ?_
                          refine no_dst (want_no rfl rfl rfl hc123) rfl (by decide) ?_
                          refine no_dst (want_undef rfl rfl rfl) rfl (by decide) ?_
                          refine no_dst (want_undef rfl rfl rfl) rfl (by decide) ?_
                          refine no_dst (want_no rfl rfl rfl hc123) rfl (by decide) ?_
                          refine GoOps.q (v := .bool false) rfl rfl (by decide) (q_pickF (btF rfl hc123) rfl) ?_
                          exact hj125 false _ _ h (by exact rfl)
                    · intro j120 hj120 h
                      rcases bor (y115 == (decide (0 ≤ y117))) with hc118 | hc118
                      · have h := h.1 hc118
                        refine GoOps.q (v := .bool y115) (want_yes rfl rfl rfl hc118) rfl (by decide) (q_move rfl) ?_
                        refine GoOps.q (v := .bool (!y115)) (want_yes rfl rfl rfl hc118) rfl (by decide) (q_not rfl) ?_
                        refine GoOps.q (v := .bool (!y115)) (want_yes rfl rfl rfl hc118) rfl (by decide) (q_move rfl) ?_
                        refine join_ops 4 (fun ρ (s141 : Bool) => ρ 20 = .int .i64 y114 ∧ ρ 21 = .bool y115 ∧ ρ 137 = .bool (y115 == (decide (0 ≤ y117))) ∧ ρ 144 = .bool s141) h ?_ ?_ <;> clear h
                        · intro s141 H143 ρ h hE
                          obtain ⟨e144_20, e144_21, e144_137, e144_144⟩ := hE
                          refine GoOps.q (v := .bool s141) rfl rfl (by decide) (q_pickT (btT e144_137 hc118) e144_144) ?_
                          exact hj120 s141 _ _ h (by exact ⟨e144_20, e144_21, rfl⟩)
                        · intro j142 hj142 h
                          rcases bor (!y115) with hc140 | hc140
                          · have h := h.1 hc140
                            refine no_dst (want_no rfl rfl rfl hc140) rfl (by decide) ?_
                            refine no_dst (want_no rfl rfl rfl hc140) rfl (by decide) ?_
                            refine no_dst (want_no rfl rfl rfl hc140) rfl (by decide) ?_
                            refine GoOps.q (v := .bool true) (want_yes rfl rfl rfl hc118) rfl (by decide) (q_pickT (btT rfl hc140) rfl) ?_
                            exact hj142 true _ _ h (by exact ⟨rfl, rfl, rfl, rfl⟩)
                          · have h := h.2 hc140
                            refine GoOps.q (v := .int .i64 y114) (want_yes rfl rfl rfl hc140) rfl (by decide) (q_move rfl) ?_
                            refine GoOps.q (v := .int .i64 y117) (want_yes rfl rfl rfl hc140) rfl (by decide) (q_move rfl) ?_
                            refine GoOps.q (v := .bool (y114 == y117)) (want_yes rfl rfl rfl hc140) rfl (by decide) (q_eql rfl rfl) ?_
                            refine GoOps.q (v := .bool (y114 == y117)) (want_yes rfl rfl rfl hc118) rfl (by decide) (q_pickF (btF rfl hc140) rfl) ?_
                            exact hj142 (y114 == y117) _ _ h (by exact ⟨rfl, rfl, rfl, rfl⟩)
                      · have h := h.2 hc118
                        refine no_dst (want_no rfl rfl rfl hc118) rfl (by decide) ?_
                        refine no_dst (want_no rfl rfl rfl hc118) rfl (by decide) ?_
                        refine no_dst (want_no rfl rfl rfl hc118) rfl (by decide) ?_
                        refine no_dst (want_undef rfl rfl rfl) rfl (by decide) ?_
                        refine no_dst (want_undef rfl rfl rfl) rfl (by decide) ?_
                        refine no_dst (want_undef rfl rfl rfl) rfl (by decide) ?_
                        refine no_dst (want_no rfl rfl rfl hc118) rfl (by decide) ?_
                        refine GoOps.q (v := .bool false) rfl rfl (by decide) (q_pickF (btF rfl hc118) rfl) ?_
                        exact hj120 false _ _ h (by exact ⟨rfl, rfl, rfl⟩)
              · intro j84 hj84 h
                rcases bor (Option.isNone y77) with hc82 | hc82
                · have h := h.1 hc82
                  refine no_dst (want_no rfl rfl rfl hc82) rfl (by decide) ?_
                  refine no_dst (want_no rfl rfl rfl hc82) rfl (by decide) ?_
                  refine GoOps.q (v := .bool true) rfl rfl (by decide) (q_pickT (btT rfl hc82) rfl) ?_
                  exact hj84 true _ _ h (by exact ⟨e53_2, e53_4, e53_11, e53_12, rfl, rfl, rfl⟩)
                · have h := h.2 hc82
                  refine GoOps.q (v := .pointer y81) (want_yes rfl rfl rfl hc82) rfl (by decide) (q_move rfl) ?_
                  refine GoOps.q (v := .bool (Option.isNone y81)) (want_yes rfl rfl rfl hc82) rfl (by decide) (q_eqlPn Try.underlying43 rfl rfl) ?_
                  refine GoOps.q (v := .bool (Option.isNone y81)) rfl rfl (by decide) (q_pickF (btF rfl hc82) rfl) ?_
                  exact hj84 (Option.isNone y81) _ _ h (by exact ⟨e53_2, e53_4, e53_11, e53_12, rfl, rfl, rfl⟩)
        · intro j35 hj35 h
          rcases bor s29 with hc33 | hc33
          · have h := h.1 hc33
            refine no_dst (want_no rfl rfl rfl hc33) rfl (by decide) ?_
            refine no_dst (want_no rfl rfl rfl hc33) rfl (by decide) ?_
            refine no_dst (want_no rfl rfl rfl hc33) rfl (by decide) ?_
            refine no_dst (want_no rfl rfl rfl hc33) rfl (by decide) ?_
            refine no_dst (want_no rfl rfl rfl hc33) rfl (by decide) ?_
            refine GoOps.q (v := .bool true) rfl rfl (by decide) (q_pickT (btT rfl hc33) rfl) ?_
            exact hj35 true _ _ h (by exact ⟨e32_1, e32_2, e32_3, e32_4, e32_11, e32_12, e32_13, rfl⟩)
          · have h := h.2 hc33
            refine GoOps.q (v := Sl.v p3) (want_yes rfl rfl rfl hc33) rfl (by decide) (q_move e32_3) ?_
            refine GoOps.q (v := .int .i64 (p3.len : Int)) (want_yes rfl rfl rfl hc33) rfl (by decide) (q_len Try.underlying30 rfl (ls1 rfl)) ?_
            refine GoOps.q (v := .pointer (some (a8.add 1))) (want_yes rfl rfl rfl hc33) rfl (by decide) (q_fieldAddr foff32_1 e32_11) ?_
            obtain ⟨x145, hx146, h⟩ := h
            refine GoOps.q (v := .int .i64 x145) (want_yes rfl rfl rfl hc33) rfl (by decide) (q_load scalar3 rfl hx146) ?_
            refine GoOps.q (v := .bool (decide ((p3.len : Int) < x145))) (want_yes rfl rfl rfl hc33) rfl (by decide) (q_lss rfl rfl) ?_
            refine GoOps.q (v := .bool (decide ((p3.len : Int) < x145))) rfl rfl (by decide) (q_pickF (btF rfl hc33) rfl) ?_
            exact hj35 (decide ((p3.len : Int) < x145)) _ _ h (by exact ⟨e32_1, e32_2, e32_3, e32_4, e32_11, e32_12, e32_13, rfl⟩)
      · intro j30 hj30 h
        rcases bor s24 with hc28 | hc28
        · have h := h.1 hc28
          refine no_dst (want_no rfl rfl rfl hc28) rfl (by decide) ?_
          refine no_dst (want_no rfl rfl rfl hc28) rfl (by decide) ?_
          refine no_dst (want_no rfl rfl rfl hc28) rfl (by decide) ?_
          refine no_dst (want_no rfl rfl rfl hc28) rfl (by decide) ?_
          refine no_dst (want_no rfl rfl rfl hc28) rfl (by decide) ?_
          refine GoOps.q (v := .bool true) rfl rfl (by decide) (q_pickT (btT rfl hc28) rfl) ?_
          exact hj30 true _ _ h (by exact ⟨e27_1, e27_2, e27_3, e27_4, e27_11, e27_12, e27_13, rfl⟩)
        · have h := h.2 hc28
          refine GoOps.q (v := Sl.v p2) (want_yes rfl rfl rfl hc28) rfl (by decide) (q_move e27_2) ?_
          refine GoOps.q (v := .int .i64 (p2.len : Int)) (want_yes rfl rfl rfl hc28) rfl (by decide) (q_len Try.underlying30 rfl (ls1 rfl)) ?_
          refine GoOps.q (v := .pointer (some (a8.add 1))) (want_yes rfl rfl rfl hc28) rfl (by decide) (q_fieldAddr foff32_1 e27_11) ?_
          obtain ⟨x147, hx148, h⟩ := h
          refine GoOps.q (v := .int .i64 x147) (want_yes rfl rfl rfl hc28) rfl (by decide) (q_load scalar3 rfl hx148) ?_
          refine GoOps.q (v := .bool (decide ((p2.len : Int) < x147))) (want_yes rfl rfl rfl hc28) rfl (by decide) (q_lss rfl rfl) ?_
          refine GoOps.q (v := .bool (decide ((p2.len : Int) < x147))) rfl rfl (by decide) (q_pickF (btF rfl hc28) rfl) ?_
          exact hj30 (decide ((p2.len : Int) < x147)) _ _ h (by exact ⟨e27_1, e27_2, e27_3, e27_4, e27_11, e27_12, e27_13, rfl⟩)
    · intro j25 hj25 h
      rcases bor s19 with hc23 | hc23
      · have h := h.1 hc23
        refine no_dst (want_no rfl rfl rfl hc23) rfl (by decide) ?_
        refine no_dst (want_no rfl rfl rfl hc23) rfl (by decide) ?_
        refine no_dst (want_no rfl rfl rfl hc23) rfl (by decide) ?_
        refine no_dst (want_no rfl rfl rfl hc23) rfl (by decide) ?_
        refine no_dst (want_no rfl rfl rfl hc23) rfl (by decide) ?_
        refine GoOps.q (v := .bool true) rfl rfl (by decide) (q_pickT (btT rfl hc23) rfl) ?_
        exact hj25 true _ _ h (by exact ⟨e22_1, e22_2, e22_3, e22_4, e22_11, e22_12, e22_13, rfl⟩)
      · have h := h.2 hc23
        refine GoOps.q (v := Sl.v p1) (want_yes rfl rfl rfl hc23) rfl (by decide) (q_move e22_1) ?_
        refine GoOps.q (v := .int .i64 (p1.len : Int)) (want_yes rfl rfl rfl hc23) rfl (by decide) (q_len Try.underlying30 rfl (ls1 rfl)) ?_
        refine GoOps.q (v := .pointer (some (a8.add 1))) (want_yes rfl rfl rfl hc23) rfl (by decide) (q_fieldAddr foff32_1 e22_11) ?_
        obtain ⟨x149, hx150, h⟩ := h
        refine GoOps.q (v := .int .i64 x149) (want_yes rfl rfl rfl hc23) rfl (by decide) (q_load scalar3 rfl hx150) ?_
        refine GoOps.q (v := .bool (decide ((p1.len : Int) < x149))) (want_yes rfl rfl rfl hc23) rfl (by decide) (q_lss rfl rfl) ?_
        refine GoOps.q (v := .bool (decide ((p1.len : Int) < x149))) rfl rfl (by decide) (q_pickF (btF rfl hc23) rfl) ?_
        exact hj25 (decide ((p1.len : Int) < x149)) _ _ h (by exact ⟨e22_1, e22_2, e22_3, e22_4, e22_11, e22_12, e22_13, rfl⟩)
  · intro j20 hj20 h
    rcases bor (y17 != 0) with hc18 | hc18
    · have h := h.1 hc18
      refine no_dst (want_no rfl rfl rfl hc18) rfl (by decide) ?_
      refine no_dst (want_no rfl rfl rfl hc18) rfl (by decide) ?_
      refine GoOps.q (v := .bool true) rfl rfl (by decide) (q_pickT (btT rfl hc18) rfl) ?_
      exact hj20 true _ _ h (by exact ⟨rfl, rfl, rfl, rfl, rfl, rfl, rfl, rfl⟩)
    · have h := h.2 hc18
      refine GoOps.q (v := .pointer y16) (want_yes rfl rfl rfl hc18) rfl (by decide) (q_move rfl) ?_
      refine GoOps.q (v := .bool (Option.isNone y16)) (want_yes rfl rfl rfl hc18) rfl (by decide) (q_eqlPn Try.underlying34 rfl rfl) ?_
      refine GoOps.q (v := .bool (Option.isNone y16)) rfl rfl (by decide) (q_pickF (btF rfl hc18) rfl) ?_
      exact hj20 (Option.isNone y16) _ _ h (by exact ⟨rfl, rfl, rfl, rfl, rfl, rfl, rfl, rfl⟩)

/-- (*keelson.usage.Table).Touch -/
def usage_Table_Touch (p0 : Option Addr) (p1 : Int) (p2 : Int) (H : PH) (Q : PH → Prop) : Prop :=
  usage_Table_has p0 p1 H fun y2 H1 =>
  mJoin (fun (s4 : Bool) (H6 : PH) =>
  mJoin (fun (s9 : Bool) (H11 : PH) =>
  mIf s9
  (mNil p0 fun a14 =>
  mLd Sl.v H11 (a14.add 1) fun x16 =>
  mIdx x16 2 p1 fun a18 =>
  mSt H11 (a18.add 1) ([.int .i64 p2]) fun H20 =>
  Q H20)
  (Q H11))
  fun j10 =>
  mIf s4
  (j10 (decide (p2 ≤ 2147483647)) H6)
  (j10 false H6))
  fun j5 =>
  mIf y2
  (j5 (decide (0 ≤ p2)) H1)
  (j5 false H1)

set_option maxRecDepth 20000 in
set_option maxHeartbeats 1000000 in
theorem usage_Table_Touch_s (p0 : Option Addr) (p1 : Int) (p2 : Int) (H : PH) (Q : PH → Prop) (h : usage_Table_Touch p0 p1 p2 H Q) :
    CallsH Try.prog 26 #[.pointer p0, .int .i64 p1, .int .i64 p2] H (fun v H' => v = .tuple #[] ∧ Q H') := by
  unfold usage_Table_Touch at h
  refine callsH_of_go Try.func26 rfl Try.ntmps26 (Nat.le_of_ble_eq_true rfl) ?_
  refine Go.seq ?_
  refine Go.region rfl ?_
  refine GoOps.q (v := .pointer p0) rfl rfl (by decide) (q_move rfl) ?_
  refine GoOps.q (v := .int .i64 p1) rfl rfl (by decide) (q_move rfl) ?_
  refine call_dst rfl (by decide) body47 (usage_Table_has_s _ _ _ _ h) rfl ?_
  rintro _ H1 ⟨y2, rfl, h⟩
  refine GoOps.q (v := .bool y2) rfl rfl (by decide) (q_move rfl) ?_
  refine join_ops 3 (fun ρ (s4 : Bool) => ρ 0 = .pointer p0 ∧ ρ 1 = .int .i64 p1 ∧ ρ 2 = .int .i64 p2 ∧ ρ 12 = .bool s4) h ?_ ?_ <;> clear h
  · intro s4 H6 ρ h hE
    obtain ⟨e7_0, e7_1, e7_2, e7_12⟩ := hE
    refine GoOps.q (v := .bool s4) rfl rfl (by decide) (q_move e7_12) ?_
    refine join_ops 3 (fun ρ (s9 : Bool) => ρ 0 = .pointer p0 ∧ ρ 1 = .int .i64 p1 ∧ ρ 2 = .int .i64 p2 ∧ ρ 16 = .bool s9) h ?_ ?_ <;> clear h
    · intro s9 H11 ρ h hE
      obtain ⟨e12_0, e12_1, e12_2, e12_16⟩ := hE
      refine GoOps.nil ?_
      rcases bor s9 with hc13 | hc13
      · have h := h.1 hc13
        refine Go.condT (btT e12_16 hc13) ?_
        refine Go.region rfl ?_
        refine GoOps.q (v := .pointer p0) rfl rfl (by decide) (q_move e12_0) ?_
        obtain ⟨a14, ha15, h⟩ := h
        refine GoOps.q (v := .pointer (some a14)) rfl rfl (by decide) (q_nilCheck (ptn rfl ha15)) ?_
        refine GoOps.q (v := .pointer (some (a14.add 1))) rfl rfl (by decide) (q_fieldAddr foff62_1 rfl) ?_
        obtain ⟨x16, hx17, h⟩ := h
        refine GoOps.q (v := Sl.v x16) rfl rfl (by decide) (q_load scalar38 rfl hx17) ?_
        refine GoOps.q (v := .int .i64 p1) rfl rfl (by decide) (q_move e12_1) ?_
        refine GoOps.q (v := .int .i64 p2) rfl rfl (by decide) (q_move e12_2) ?_
        obtain ⟨a18, ha19, h⟩ := h
        refine GoOps.q (v := .pointer (some a18)) rfl rfl (by decide) (q_idx slice38 ha19 rfl rfl) ?_
        refine GoOps.q (v := .pointer (some (a18.add 1))) rfl rfl (by decide) (q_fieldAddr foff40_1 rfl) ?_
        obtain ⟨q21b, q21o, q21c, q21e, hq21a, hq21b, hq21l, hq21v, h⟩ := h
        refine op_none rfl rfl (do_store (vs := [.int .i64 p2]) size3 (pta rfl hq21a) rfl rfl rfl hq21v hq21b hq21l ?_) 
        refine GoOps.nil ?_
        exact Go.fall ⟨.inr rfl, _, _, DOk.nil, (resOk0 Try.results26), ⟨rfl, h⟩⟩
      · have h := h.2 hc13
        refine Go.condF (btF e12_16 hc13) ?_
        refine Go.skip ?_
        exact Go.fall ⟨.inr rfl, _, _, DOk.nil, (resOk0 Try.results26), ⟨rfl, h⟩⟩
    · intro j10 hj10 h
      rcases bor s4 with hc8 | hc8
      · have h := h.1 hc8
        refine GoOps.q (v := .int .i64 p2) (want_yes rfl rfl rfl hc8) rfl (by decide) (q_move e7_2) ?_
        refine GoOps.q (v := .bool (decide (p2 ≤ 2147483647))) (want_yes rfl rfl rfl hc8) rfl (by decide) (q_leq rfl rfl) ?_
        refine GoOps.q (v := .bool (decide (p2 ≤ 2147483647))) rfl rfl (by decide) (q_pickT (btT rfl hc8) rfl) ?_
        exact hj10 (decide (p2 ≤ 2147483647)) _ _ h (by exact ⟨e7_0, e7_1, e7_2, rfl⟩)
      · have h := h.2 hc8
        refine no_dst (want_no rfl rfl rfl hc8) rfl (by decide) ?_
        refine no_dst (want_no rfl rfl rfl hc8) rfl (by decide) ?_
        refine GoOps.q (v := .bool false) rfl rfl (by decide) (q_pickF (btF rfl hc8) rfl) ?_
        exact hj10 false _ _ h (by exact ⟨e7_0, e7_1, e7_2, rfl⟩)
  · intro j5 hj5 h
    rcases bor y2 with hc3 | hc3
    · have h := h.1 hc3
      refine GoOps.q (v := .int .i64 p2) (want_yes rfl rfl rfl hc3) rfl (by decide) (q_move rfl) ?_
      refine GoOps.q (v := .bool (decide (0 ≤ p2))) (want_yes rfl rfl rfl hc3) rfl (by decide) (q_geq rfl rfl) ?_
      refine GoOps.q (v := .bool (decide (0 ≤ p2))) rfl rfl (by decide) (q_pickT (btT rfl hc3) rfl) ?_
      exact hj5 (decide (0 ≤ p2)) _ _ h (by exact ⟨rfl, rfl, rfl, rfl⟩)
    · have h := h.2 hc3
      refine no_dst (want_no rfl rfl rfl hc3) rfl (by decide) ?_
      refine no_dst (want_no rfl rfl rfl hc3) rfl (by decide) ?_
      refine GoOps.q (v := .bool false) rfl rfl (by decide) (q_pickF (btF rfl hc3) rfl) ?_
      exact hj5 false _ _ h (by exact ⟨rfl, rfl, rfl, rfl⟩)

/-- (*keelson.usage.Table).State -/
def usage_Table_State (p0 : Option Addr) (p1 : Int) (H : PH) (Q : Int → PH → Prop) : Prop :=
  usage_Table_has p0 p1 H fun y2 H1 =>
  mIf (!y2)
  (Q 0 H1)
  (mNil p0 fun a4 =>
  mLd Sl.v H1 (a4.add 1) fun x6 =>
  mIdx x6 2 p1 fun a8 =>
  mLd (.int .i64) H1 (a8.add 0) fun x10 =>
  Q x10 H1)

set_option maxRecDepth 20000 in
set_option maxHeartbeats 1000000 in
theorem usage_Table_State_s (p0 : Option Addr) (p1 : Int) (H : PH) (Q : Int → PH → Prop) (h : usage_Table_State p0 p1 H Q) :
    CallsH Try.prog 27 #[.pointer p0, .int .i64 p1] H (fun v H' => ∃ (r0 : Int), v = .int .i64 r0 ∧ Q r0 H') := by
  unfold usage_Table_State at h
  refine callsH_of_go Try.func27 rfl Try.ntmps27 (Nat.le_of_ble_eq_true rfl) ?_
  refine Go.seq ?_
  refine Go.region rfl ?_
  refine GoOps.q (v := .int .i64 0) rfl rfl (by decide) (q_assign rfl) ?_
  refine GoOps.nil ?_
  refine Go.seq ?_
  refine Go.seq ?_
  refine Go.region rfl ?_
  refine GoOps.q (v := .pointer p0) rfl rfl (by decide) (q_move rfl) ?_
  refine GoOps.q (v := .int .i64 p1) rfl rfl (by decide) (q_move rfl) ?_
  refine call_dst rfl (by decide) body47 (usage_Table_has_s _ _ _ _ h) rfl ?_
  rintro _ H1 ⟨y2, rfl, h⟩
  refine GoOps.q (v := .bool (!y2)) rfl rfl (by decide) (q_not rfl) ?_
  refine GoOps.nil ?_
  rcases bor (!y2) with hc3 | hc3
  · have h := h.1 hc3
    refine Go.condT (btT rfl hc3) ?_
    refine Go.seq ?_
    refine Go.region rfl ?_
    refine GoOps.q (v := .int .i64 0) rfl rfl (by decide) (q_assign rfl) ?_
    refine GoOps.nil ?_
    exact Go.ret ⟨.inl rfl, _, _, DOk.nil, (resOk1 Try.results27 rfl), ⟨_, rfl, h⟩⟩
  · have h := h.2 hc3
    refine Go.condF (btF rfl hc3) ?_
    refine Go.skip ?_
    refine Go.seq ?_
    refine Go.region rfl ?_
    refine GoOps.q (v := .pointer p0) rfl rfl (by decide) (q_move rfl) ?_
    obtain ⟨a4, ha5, h⟩ := h
    refine GoOps.q (v := .pointer (some a4)) rfl rfl (by decide) (q_nilCheck (ptn rfl ha5)) ?_
    refine GoOps.q (v := .pointer (some (a4.add 1))) rfl rfl (by decide) (q_fieldAddr foff62_1 rfl) ?_
    obtain ⟨x6, hx7, h⟩ := h
    refine GoOps.q (v := Sl.v x6) rfl rfl (by decide) (q_load scalar38 rfl hx7) ?_
    refine GoOps.q (v := .int .i64 p1) rfl rfl (by decide) (q_move rfl) ?_
    obtain ⟨a8, ha9, h⟩ := h
    refine GoOps.q (v := .pointer (some a8)) rfl rfl (by decide) (q_idx slice38 ha9 rfl rfl) ?_
    refine GoOps.q (v := .pointer (some (a8.add 0))) rfl rfl (by decide) (q_fieldAddr foff40_0 rfl) ?_
    obtain ⟨x10, hx11, h⟩ := h
    refine GoOps.q (v := .int .i64 x10) rfl rfl (by decide) (q_load scalar3 rfl hx11) ?_
    refine GoOps.q (v := .int .i64 x10) rfl rfl (by decide) (q_assign rfl) ?_
    refine GoOps.nil ?_
    exact Go.ret ⟨.inl rfl, _, _, DOk.nil, (resOk1 Try.results27 rfl), ⟨_, rfl, h⟩⟩


end Go.Proofs.Ytinjkdoikljakaa

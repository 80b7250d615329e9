import Derived.Test.YtdoldlinaghfbaaFnp1
set_option linter.unusedVariables false
set_option linter.unusedSimpArgs false
namespace Go.Proofs.Ytdoldlinaghfbaa
open Go Go.Kx Go.Proofs
/-- keelson.keelsonlaw3.DiskPicks -/
def keelsonlaw3_DiskPicks (p0 : Sl) (H : PH) (Q : Bool → PH → Prop) : Prop :=
  mIf (decide (40 < (p0.len : Int)))
  (keelsonlaw3_awake H fun y3 H2 =>
  Q y3 H2)
  (vdisk_New (IntKind.wrap .i64 ((p0.len : Int) + 2)) H fun y5 y6 H4 =>
  mJoin (fun (s8 : Bool) (H10 : PH) =>
  mIf s8
  (Q false H10)
  (mLoop (fun (s13 : Int) (H16 : PH) (again14 : Int → PH → Prop) =>
  mIf (decide (s13 < (IntKind.wrap .i64 ((p0.len : Int) + 2))))
  (keelsonalike_Fill 200 H16 fun y19 H18 =>
  vdisk_Disk_Write y5 s13 y19 H18 fun y21 H20 =>
  mIf (y21 != 0)
  (Q false H20)
  (again14 (IntKind.wrap .i64 (s13 + 1)) H20))
  (vdisk_Disk_Flush y5 H16 fun y24 H23 =>
  mIf (y24 != 0)
  (Q false H23)
  (mLoop (fun (s26 : Int) (H29 : PH) (again27 : Int → PH → Prop) =>
  mIf (decide (s26 < (IntKind.wrap .i64 ((p0.len : Int) + 2))))
  (keelsonalike_Fill s26 H29 fun y32 H31 =>
  vdisk_Disk_Write y5 s26 y32 H31 fun y34 H33 =>
  mIf (y34 != 0)
  (Q false H33)
  (again27 (IntKind.wrap .i64 (s26 + 1)) H33))
  (vdisk_Disk_Crash y5 p0 H29 fun y37 H36 =>
  mIf (Option.isNone y37)
  (Q false H36)
  (mLoop (fun (s39 : Int × Int) (H42 : PH) (again40 : (Int × Int) → PH → Prop) =>
  mIf (decide (s39.2 < (IntKind.wrap .i64 ((p0.len : Int) + 2))))
  (vdisk_Disk_Read y37 s39.2 H42 fun y45 y46 H44 =>
  mJoin (fun (s48 : Bool) (H50 : PH) =>
  mIf s48
  (Q false H50)
  (mLoop (fun (s53 : Int) (H56 : PH) (again54 : Int → PH → Prop) =>
  mJoin (fun (s58 : Bool) (H60 : PH) =>
  mIf s58
  (again54 (IntKind.wrap .i64 (s53 + 1)) H60)
  (mCut y45 1 s53 (y45.len : Int) fun r64 =>
  keelsonalike_Fill 200 H60 fun y66 H65 =>
  mCut y66 1 s53 (y66.len : Int) fun r68 =>
  keelsonalike_Bytes r64 r68 H65 fun y70 H69 =>
  mIf (!y70)
  (Q false H69)
  (mJoin (fun (s72 : Int) (H74 : PH) =>
  mJoin (fun (s76 : Int) (H78 : PH) =>
  mJoin (fun (s80 : Int × Int) (H82 : PH) =>
  mIf (s53 != s80.2)
  (Q false H82)
  (again40 (s80.1, IntKind.wrap .i64 (s39.2 + 1)) H82))
  fun j81 =>
  mIf ((Int.tmod s72 3) == 2)
  (mIf ((IntKind.wrap .i64 (s39.1 + 1)) == 1)
  (j81 (IntKind.wrap .i64 (s39.1 + 1), IntKind.wrap .i64 (Int.tdiv s72 3)) H78)
  (j81 (IntKind.wrap .i64 (s39.1 + 1), s76) H78))
  (j81 (s39.1, s76) H78))
  fun j77 =>
  mIf ((Int.tmod s72 3) == 1)
  (j77 64 H74)
  (j77 0 H74))
  fun j73 =>
  mIf (decide (s39.2 < (p0.len : Int)))
  (mIdx p0 1 s39.2 fun a89 =>
  mLd (.int .i64) H69 a89 fun x91 =>
  keelsonalike_Round x91 192 H69 fun y94 H93 =>
  j73 y94 H93)
  (j73 0 H69))))
  fun j59 =>
  mIf (decide (s53 < 64))
  (mIdx y45 1 s53 fun a95 =>
  mLd (.int .u8) H56 a95 fun x97 =>
  keelsonalike_Fill s39.2 H56 fun y100 H99 =>
  mSame H99 a95 (.int .u8 x97) <|
  mIdx y100 1 s53 fun a102 =>
  mLd (.int .u8) H99 a102 fun x104 =>
  j59 (x97 == x104) H99)
  (j59 false H56))
  0 H50))
  fun j49 =>
  mIf (y46 != 0)
  (j49 true H44)
  (j49 ((y45.len : Int) != 64) H44))
  (keelsonlaw3_awake H42 fun y107 H106 =>
  Q y107 H106))
  (0, 0) H36)))
  0 H23)))
  0 H10))
  fun j9 =>
  mIf (y6 != 0)
  (j9 true H4)
  (j9 (Option.isNone y5) H4))

set_option maxRecDepth 20000 in
set_option maxHeartbeats 1000000 in
theorem keelsonlaw3_DiskPicks_s (p0 : Sl) (H : PH) (Q : Bool → PH → Prop) (h : keelsonlaw3_DiskPicks p0 H Q) :
    CallsH Try.prog 4 #[Sl.v p0] H (fun v H' => ∃ (r0 : Bool), v = .bool r0 ∧ Q r0 H') := by
  unfold keelsonlaw3_DiskPicks at h
  refine callsH_of_go Try.func4 rfl Try.ntmps4 (Nat.le_of_ble_eq_true rfl) ?_
  refine Go.seq ?_
  refine Go.region rfl ?_
  refine GoOps.q (v := .bool false) rfl rfl (by decide) (q_assign rfl) ?_
  refine GoOps.nil ?_
  refine Go.seq ?_
  refine Go.seq ?_
  refine Go.region rfl ?_
  refine GoOps.q (v := Sl.v p0) rfl rfl (by decide) (q_move rfl) ?_
  refine GoOps.q (v := .int .i64 (p0.len : Int)) rfl rfl (by decide) (q_len Try.underlying37 rfl (ls1 rfl)) ?_
  refine GoOps.q (v := .bool (decide (40 < (p0.len : Int)))) rfl rfl (by decide) (q_gtr rfl rfl) ?_
  refine GoOps.nil ?_
  rcases bor (decide (40 < (p0.len : Int))) with hc1 | hc1
  · have h := h.1 hc1
    refine Go.condT (btT rfl hc1) ?_
    refine Go.seq ?_
    refine Go.region rfl ?_
    refine call_dst rfl (by decide) body17 (keelsonlaw3_awake_s _ _ h) rfl ?_
    rintro _ H2 ⟨y3, rfl, h⟩
    refine GoOps.q (v := .bool y3) rfl rfl (by decide) (q_assign rfl) ?_
    refine GoOps.nil ?_
    exact Go.ret ⟨.inl rfl, _, _, DOk.nil, (resOk1 Try.results4 rfl), ⟨_, rfl, h⟩⟩
  · have h := h.2 hc1
    refine Go.condF (btF rfl hc1) ?_
    refine Go.skip ?_
    refine Go.seq ?_
    refine Go.region rfl ?_
    refine GoOps.q (v := Sl.v p0) rfl rfl (by decide) (q_move rfl) ?_
    refine GoOps.q (v := .int .i64 (p0.len : Int)) rfl rfl (by decide) (q_len Try.underlying37 rfl (ls1 rfl)) ?_
    refine GoOps.q (v := .int .i64 (IntKind.wrap .i64 ((p0.len : Int) + 2))) rfl rfl (by decide) (q_add rfl rfl) ?_
    refine GoOps.q (v := .int .i64 (IntKind.wrap .i64 ((p0.len : Int) + 2))) rfl rfl (by decide) (q_assign rfl) ?_
    refine GoOps.nil ?_
    refine Go.seq ?_
    refine Go.region rfl ?_
    refine GoOps.q (v := .int .i64 (IntKind.wrap .i64 ((p0.len : Int) + 2))) rfl rfl (by decide) (q_move rfl) ?_
    refine call_dst rfl (by decide) body10 (vdisk_New_s _ _ _ h) rfl ?_
    rintro _ H4 ⟨y5, y6, rfl, h⟩
    refine GoOps.q (v := .tuple #[.pointer y5, .int .i64 y6]) rfl rfl (by decide) (q_move rfl) ?_
    refine GoOps.q (v := .pointer y5) rfl rfl (by decide) (q_extract rfl rfl) ?_
    refine GoOps.q (v := .int .i64 y6) rfl rfl (by decide) (q_extract rfl rfl) ?_
    refine GoOps.q (v := .pointer y5) rfl rfl (by decide) (q_assign rfl) ?_
    refine GoOps.q (v := .int .i64 y6) rfl rfl (by decide) (q_assign rfl) ?_
    refine GoOps.nil ?_
    refine Go.seq ?_
    refine Go.seq ?_
    refine Go.region rfl ?_
    refine GoOps.q (v := .int .i64 y6) rfl rfl (by decide) (q_move rfl) ?_
    refine GoOps.q (v := .bool (y6 != 0)) rfl rfl (by decide) (q_neq rfl rfl) ?_
    refine GoOps.q (v := .bool (y6 != 0)) rfl rfl (by decide) (q_move rfl) ?_
    refine join_ops 3 (fun ρ (s8 : Bool) => ρ 0 = Sl.v p0 ∧ ρ 3 = .int .i64 (IntKind.wrap .i64 ((p0.len : Int) + 2)) ∧ ρ 4 = .pointer y5 ∧ ρ 33 = .bool s8) h ?_ ?_ <;> clear h
    · intro s8 H10 ρ h hE
      obtain ⟨e11_0, e11_3, e11_4, e11_33⟩ := hE
      refine GoOps.nil ?_
      rcases bor s8 with hc12 | hc12
      · have h := h.1 hc12
        refine Go.condT (btT e11_33 hc12) ?_
        refine Go.seq ?_
        refine Go.region rfl ?_
        refine GoOps.q (v := .bool false) rfl rfl (by decide) (q_assign rfl) ?_
        refine GoOps.nil ?_
        exact Go.ret ⟨.inl rfl, _, _, DOk.nil, (resOk1 Try.results4 rfl), ⟨_, rfl, h⟩⟩
      · have h := h.2 hc12
        refine Go.condF (btF e11_33 hc12) ?_
        refine Go.skip ?_
        refine Go.seq ?_
        refine Go.seq ?_
        refine Go.region rfl ?_
        refine GoOps.q (v := .int .i64 0) rfl rfl (by decide) (q_assign rfl) ?_
        refine GoOps.nil ?_
        refine Go.block ?_
        refine loop_go (fun ρ (s13 : Int) => ρ 0 = Sl.v p0 ∧ ρ 3 = .int .i64 (IntKind.wrap .i64 ((p0.len : Int) + 2)) ∧ ρ 4 = .pointer y5 ∧ ρ 6 = .int .i64 s13) h ⟨e11_0, e11_3, e11_4, rfl⟩ ?_
        clear h
        intro ρ s13 H16 again14 hE h hagain14
        obtain ⟨e15_0, e15_3, e15_4, e15_6⟩ := hE
        refine Go.seq ?_
        refine Go.seq ?_
        refine Go.region rfl ?_
        refine GoOps.q (v := .int .i64 s13) rfl rfl (by decide) (q_move e15_6) ?_
        refine GoOps.q (v := .int .i64 (IntKind.wrap .i64 ((p0.len : Int) + 2))) rfl rfl (by decide) (q_move e15_3) ?_
        refine GoOps.q (v := .bool (decide (s13 < (IntKind.wrap .i64 ((p0.len : Int) + 2))))) rfl rfl (by decide) (q_lss rfl rfl) ?_
        refine GoOps.nil ?_
        rcases bor (decide (s13 < (IntKind.wrap .i64 ((p0.len : Int) + 2)))) with hc17 | hc17
        · have h := h.1 hc17
          refine Go.condT (btT rfl hc17) ?_
          refine Go.skip ?_
          refine Go.seq ?_
          refine Go.block ?_
          refine Go.seq ?_
          refine Go.region rfl ?_
          refine GoOps.q (v := .pointer y5) rfl rfl (by decide) (q_move e15_4) ?_
          refine GoOps.q (v := .int .i64 s13) rfl rfl (by decide) (q_move e15_6) ?_
          refine call_dst rfl (by decide) body12 (keelsonalike_Fill_s _ _ _ h) rfl ?_
          rintro _ H18 ⟨y19, rfl, h⟩
          refine call_dst rfl (by decide) body11 (vdisk_Disk_Write_s _ _ _ _ _ h) rfl ?_
          rintro _ H20 ⟨y21, rfl, h⟩
          refine GoOps.q (v := .bool (y21 != 0)) rfl rfl (by decide) (q_neq rfl rfl) ?_
          refine GoOps.nil ?_
          rcases bor (y21 != 0) with hc22 | hc22
          · have h := h.1 hc22
            refine Go.condT (btT rfl hc22) ?_
            refine Go.seq ?_
            refine Go.region rfl ?_
            refine GoOps.q (v := .bool false) rfl rfl (by decide) (q_assign rfl) ?_
            refine GoOps.nil ?_
            exact Go.ret ⟨.inl rfl, _, _, DOk.nil, (resOk1 Try.results4 rfl), ⟨_, rfl, h⟩⟩
          · have h := h.2 hc22
            refine Go.condF (btF rfl hc22) ?_
            refine Go.skip ?_
            refine Go.inBlock ?_
            refine Go.region rfl ?_
            refine GoOps.q (v := .int .i64 s13) rfl rfl (by decide) (q_move e15_6) ?_
            refine GoOps.q (v := .int .i64 (IntKind.wrap .i64 (s13 + 1))) rfl rfl (by decide) (q_add rfl rfl) ?_
            refine GoOps.q (v := .int .i64 (IntKind.wrap .i64 (s13 + 1))) rfl rfl (by decide) (q_assign rfl) ?_
            refine GoOps.nil ?_
            exact hagain14 _ _ _ h ⟨e15_0, e15_3, e15_4, rfl⟩
        · have h := h.2 hc17
          refine Go.condF (btF rfl hc17) ?_
          refine Go.exit rfl ?_
          refine Go.seq ?_
          refine Go.seq ?_
          refine Go.region rfl ?_
          refine GoOps.q (v := .pointer y5) rfl rfl (by decide) (q_move e15_4) ?_
          refine call_dst rfl (by decide) body18 (vdisk_Disk_Flush_s _ _ _ h) rfl ?_
          rintro _ H23 ⟨y24, rfl, h⟩
          refine GoOps.q (v := .bool (y24 != 0)) rfl rfl (by decide) (q_neq rfl rfl) ?_
          refine GoOps.nil ?_
          rcases bor (y24 != 0) with hc25 | hc25
          · have h := h.1 hc25
            refine Go.condT (btT rfl hc25) ?_
            refine Go.seq ?_
            refine Go.region rfl ?_
            refine GoOps.q (v := .bool false) rfl rfl (by decide) (q_assign rfl) ?_
            refine GoOps.nil ?_
            exact Go.ret ⟨.inl rfl, _, _, DOk.nil, (resOk1 Try.results4 rfl), ⟨_, rfl, h⟩⟩
          · have h := h.2 hc25
            refine Go.condF (btF rfl hc25) ?_
            refine Go.skip ?_
            refine Go.seq ?_
            refine Go.seq ?_
            refine Go.region rfl ?_
            refine GoOps.q (v := .int .i64 0) rfl rfl (by decide) (q_assign rfl) ?_
            refine GoOps.nil ?_
            refine Go.block ?_
            refine loop_go (fun ρ (s26 : Int) => ρ 0 = Sl.v p0 ∧ ρ 3 = .int .i64 (IntKind.wrap .i64 ((p0.len : Int) + 2)) ∧ ρ 4 = .pointer y5 ∧ ρ 7 = .int .i64 s26) h ⟨e15_0, e15_3, e15_4, rfl⟩ ?_
            clear h
            intro ρ s26 H29 again27 hE h hagain27
            obtain ⟨e28_0, e28_3, e28_4, e28_7⟩ := hE
            refine Go.seq ?_
            refine Go.seq ?_
            refine Go.region rfl ?_
            refine GoOps.q (v := .int .i64 s26) rfl rfl (by decide) (q_move e28_7) ?_
            refine GoOps.q (v := .int .i64 (IntKind.wrap .i64 ((p0.len : Int) + 2))) rfl rfl (by decide) (q_move e28_3) ?_
            refine GoOps.q (v := .bool (decide (s26 < (IntKind.wrap .i64 ((p0.len : Int) + 2))))) rfl rfl (by decide) (q_lss rfl rfl) ?_
            refine GoOps.nil ?_
            rcases bor (decide (s26 < (IntKind.wrap .i64 ((p0.len : Int) + 2)))) with hc30 | hc30
            · have h := h.1 hc30
              refine Go.condT (btT rfl hc30) ?_
              refine Go.skip ?_
              refine Go.seq ?_
              refine Go.block ?_
              refine Go.seq ?_
              refine Go.region rfl ?_
              refine GoOps.q (v := .pointer y5) rfl rfl (by decide) (q_move e28_4) ?_
              refine GoOps.q (v := .int .i64 s26) rfl rfl (by decide) (q_move e28_7) ?_
              refine GoOps.q (v := .int .i64 s26) rfl rfl (by decide) (q_move e28_7) ?_
              refine call_dst rfl (by decide) body12 (keelsonalike_Fill_s _ _ _ h) rfl ?_
              rintro _ H31 ⟨y32, rfl, h⟩
              refine call_dst rfl (by decide) body11 (vdisk_Disk_Write_s _ _ _ _ _ h) rfl ?_
              rintro _ H33 ⟨y34, rfl, h⟩
              refine GoOps.q (v := .bool (y34 != 0)) rfl rfl (by decide) (q_neq rfl rfl) ?_
              refine GoOps.nil ?_
              rcases bor (y34 != 0) with hc35 | hc35
              · have h := h.1 hc35
                refine Go.condT (btT rfl hc35) ?_
                refine Go.seq ?_
                refine Go.region rfl ?_
                refine GoOps.q (v := .bool false) rfl rfl (by decide) (q_assign rfl) ?_
                refine GoOps.nil ?_
                exact Go.ret ⟨.inl rfl, _, _, DOk.nil, (resOk1 Try.results4 rfl), ⟨_, rfl, h⟩⟩
              · have h := h.2 hc35
                refine Go.condF (btF rfl hc35) ?_
                refine Go.skip ?_
                refine Go.inBlock ?_
                refine Go.region rfl ?_
                refine GoOps.q (v := .int .i64 s26) rfl rfl (by decide) (q_move e28_7) ?_
                refine GoOps.q (v := .int .i64 (IntKind.wrap .i64 (s26 + 1))) rfl rfl (by decide) (q_add rfl rfl) ?_
                refine GoOps.q (v := .int .i64 (IntKind.wrap .i64 (s26 + 1))) rfl rfl (by decide) (q_assign rfl) ?_
                refine GoOps.nil ?_
                exact hagain27 _ _ _ h ⟨e28_0, e28_3, e28_4, rfl⟩
            · have h := h.2 hc30
              refine Go.condF (btF rfl hc30) ?_
              refine Go.exit rfl ?_
              refine Go.seq ?_
              refine Go.region rfl ?_
              refine GoOps.q (v := .pointer y5) rfl rfl (by decide) (q_move e28_4) ?_
              refine GoOps.q (v := Sl.v p0) rfl rfl (by decide) (q_move e28_0) ?_
              refine call_dst rfl (by decide) body16 (vdisk_Disk_Crash_s _ _ _ _ h) rfl ?_
              rintro _ H36 ⟨y37, rfl, h⟩
              refine GoOps.q (v := .pointer y37) rfl rfl (by decide) (q_assign rfl) ?_
              refine GoOps.nil ?_
              refine Go.seq ?_
              refine Go.seq ?_
              refine Go.region rfl ?_
              refine GoOps.q (v := .pointer y37) rfl rfl (by decide) (q_move rfl) ?_
              refine GoOps.q (v := .bool (Option.isNone y37)) rfl rfl (by decide) (q_eqlPn Try.underlying23 rfl rfl) ?_
              refine GoOps.nil ?_
              rcases bor (Option.isNone y37) with hc38 | hc38
              · have h := h.1 hc38
                refine Go.condT (btT rfl hc38) ?_
                refine Go.seq ?_
                refine Go.region rfl ?_
                refine GoOps.q (v := .bool false) rfl rfl (by decide) (q_assign rfl) ?_
                refine GoOps.nil ?_
                exact Go.ret ⟨.inl rfl, _, _, DOk.nil, (resOk1 Try.results4 rfl), ⟨_, rfl, h⟩⟩
              · have h := h.2 hc38
                refine Go.condF (btF rfl hc38) ?_
                refine Go.skip ?_
                refine Go.seq ?_
                refine Go.region rfl ?_
                refine GoOps.q (v := .int .i64 0) rfl rfl (by decide) (q_assign rfl) ?_
                refine GoOps.nil ?_
                refine Go.seq ?_
                refine Go.seq ?_
                refine Go.region rfl ?_
                refine GoOps.q (v := .int .i64 0) rfl rfl (by decide) (q_assign rfl) ?_
                refine GoOps.nil ?_
                refine Go.block ?_
                refine loop_go (fun ρ (s39 : Int × Int) => ρ 0 = Sl.v p0 ∧ ρ 3 = .int .i64 (IntKind.wrap .i64 ((p0.len : Int) + 2)) ∧ ρ 8 = .pointer y37 ∧ ρ 9 = .int .i64 s39.1 ∧ ρ 10 = .int .i64 s39.2) h ⟨e28_0, e28_3, rfl, rfl, rfl⟩ ?_
                clear h
                intro ρ s39 H42 again40 hE h hagain40
                obtain ⟨e41_0, e41_3, e41_8, e41_9, e41_10⟩ := hE
                refine Go.seq ?_
                refine Go.seq ?_
                refine Go.region rfl ?_
                refine GoOps.q (v := .int .i64 s39.2) rfl rfl (by decide) (q_move e41_10) ?_
                refine GoOps.q (v := .int .i64 (IntKind.wrap .i64 ((p0.len : Int) + 2))) rfl rfl (by decide) (q_move e41_3) ?_
                refine GoOps.q (v := .bool (decide (s39.2 < (IntKind.wrap .i64 ((p0.len : Int) + 2))))) rfl rfl (by decide) (q_lss rfl rfl) ?_
                refine GoOps.nil ?_
                rcases bor (decide (s39.2 < (IntKind.wrap .i64 ((p0.len : Int) + 2)))) with hc43 | hc43
                · have h := h.1 hc43
                  refine Go.condT (btT rfl hc43) ?_
                  refine Go.skip ?_
                  refine Go.seq ?_
                  refine Go.block ?_
                  refine Go.seq ?_
                  refine Go.region rfl ?_
                  refine GoOps.q (v := .pointer y37) rfl rfl (by decide) (q_move e41_8) ?_
                  refine GoOps.q (v := .int .i64 s39.2) rfl rfl (by decide) (q_move e41_10) ?_
                  refine call_dst rfl (by decide) body14 (vdisk_Disk_Read_s _ _ _ _ h) rfl ?_
                  rintro _ H44 ⟨y45, y46, rfl, h⟩
                  refine GoOps.q (v := .tuple #[Sl.v y45, .int .i64 y46]) rfl rfl (by decide) (q_move rfl) ?_
                  refine GoOps.q (v := Sl.v y45) rfl rfl (by decide) (q_extract rfl rfl) ?_
                  refine GoOps.q (v := .int .i64 y46) rfl rfl (by decide) (q_extract rfl rfl) ?_
                  refine GoOps.q (v := Sl.v y45) rfl rfl (by decide) (q_assign rfl) ?_
                  refine GoOps.q (v := .int .i64 y46) rfl rfl (by decide) (q_assign rfl) ?_
                  refine GoOps.nil ?_
                  refine Go.seq ?_
                  refine Go.seq ?_
                  refine Go.region rfl ?_
                  refine GoOps.q (v := .int .i64 y46) rfl rfl (by decide) (q_move rfl) ?_
                  refine GoOps.q (v := .bool (y46 != 0)) rfl rfl (by decide) (q_neq rfl rfl) ?_
                  refine GoOps.q (v := .bool (y46 != 0)) rfl rfl (by decide) (q_move rfl) ?_
                  refine join_ops 4 (fun ρ (s48 : Bool) => ρ 0 = Sl.v p0 ∧ ρ 3 = .int .i64 (IntKind.wrap .i64 ((p0.len : Int) + 2)) ∧ ρ 8 = .pointer y37 ∧ ρ 9 = .int .i64 s39.1 ∧ ρ 10 = .int .i64 s39.2 ∧ ρ 11 = Sl.v y45 ∧ ρ 80 = .bool s48) h ?_ ?_ <;> clear h
                  · intro s48 H50 ρ h hE
                    obtain ⟨e51_0, e51_3, e51_8, e51_9, e51_10, e51_11, e51_80⟩ := hE
                    refine GoOps.nil ?_
                    rcases bor s48 with hc52 | hc52
                    · have h := h.1 hc52
                      refine Go.condT (btT e51_80 hc52) ?_
                      refine Go.seq ?_
                      refine Go.region rfl ?_
                      refine GoOps.q (v := .bool false) rfl rfl (by decide) (q_assign rfl) ?_
                      refine GoOps.nil ?_
                      exact Go.ret ⟨.inl rfl, _, _, DOk.nil, (resOk1 Try.results4 rfl), ⟨_, rfl, h⟩⟩
                    · have h := h.2 hc52
                      refine Go.condF (btF e51_80 hc52) ?_
                      refine Go.skip ?_
                      refine Go.seq ?_
                      refine Go.region rfl ?_
                      refine GoOps.q (v := .int .i64 0) rfl rfl (by decide) (q_assign rfl) ?_
                      refine GoOps.nil ?_
                      refine Go.seq ?_
                      refine Go.block ?_
                      refine loop_go (fun ρ (s53 : Int) => ρ 0 = Sl.v p0 ∧ ρ 3 = .int .i64 (IntKind.wrap .i64 ((p0.len : Int) + 2)) ∧ ρ 8 = .pointer y37 ∧ ρ 9 = .int .i64 s39.1 ∧ ρ 10 = .int .i64 s39.2 ∧ ρ 11 = Sl.v y45 ∧ ρ 13 = .int .i64 s53) h ⟨e51_0, e51_3, e51_8, e51_9, e51_10, e51_11, rfl⟩ ?_
                      clear h
                      intro ρ s53 H56 again54 hE h hagain54
                      obtain ⟨e55_0, e55_3, e55_8, e55_9, e55_10, e55_11, e55_13⟩ := hE
                      refine Go.seq ?_
                      refine Go.seq ?_
                      refine Go.draw mixed ?_
                      refine plan_pure (i := 0) (d := 81) (S2 := 1) (v := .int .i64 s53) rfl (by decide +kernel) rfl (q_move e55_13) ?_
                      refine plan_pure (i := 1) (d := 82) (S2 := 3) (v := .bool (decide (s53 < 64))) rfl (by decide +kernel) rfl (q_lss rfl rfl) ?_
                      refine plan_pure (i := 2) (d := 83) (S2 := 7) (v := .bool (decide (s53 < 64))) rfl (by decide +kernel) rfl (q_move rfl) ?_
                      refine join_plan 16383 [11, 6] (fun ρ (s58 : Bool) => ρ 0 = Sl.v p0 ∧ ρ 3 = .int .i64 (IntKind.wrap .i64 ((p0.len : Int) + 2)) ∧ ρ 8 = .pointer y37 ∧ ρ 9 = .int .i64 s39.1 ∧ ρ 10 = .int .i64 s39.2 ∧ ρ 11 = Sl.v y45 ∧ ρ 13 = .int .i64 s53 ∧ ρ 94 = .bool s58) h ?_ ?_ <;> clear h
                      · intro s58 H60 ρ h hE
                        obtain ⟨e61_0, e61_3, e61_8, e61_9, e61_10, e61_11, e61_13, e61_94⟩ := hE
                        refine plan_done (by decide +kernel) ?_
                        rcases bor s58 with hc62 | hc62
                        · have h := h.1 hc62
                          refine Go.condT (btT e61_94 hc62) ?_
                          refine Go.skip ?_
                          refine Go.block ?_
                          refine Go.region rfl ?_
                          refine GoOps.q (v := .int .i64 s53) rfl rfl (by decide) (q_move e61_13) ?_
                          refine GoOps.q (v := .int .i64 (IntKind.wrap .i64 (s53 + 1))) rfl rfl (by decide) (q_add rfl rfl) ?_
                          refine GoOps.q (v := .int .i64 (IntKind.wrap .i64 (s53 + 1))) rfl rfl (by decide) (q_assign rfl) ?_
                          refine GoOps.nil ?_
                          refine Go.inBlock ?_
                          exact hagain54 _ _ _ h ⟨e61_0, e61_3, e61_8, e61_9, e61_10, e61_11, rfl⟩
                        · have h := h.2 hc62
                          refine Go.condF (btF e61_94 hc62) ?_
                          refine Go.exit rfl ?_
                          refine Go.seq ?_
                          refine Go.seq ?_
                          refine Go.draw mixed ?_
                          refine plan_pure (i := 0) (d := 97) (S2 := 1) (v := Sl.v y45) rfl (by decide +kernel) rfl (q_move e61_11) ?_
                          refine plan_pure (i := 1) (d := 98) (S2 := 3) (v := .int .i64 s53) rfl (by decide +kernel) rfl (q_move e61_13) ?_
                          obtain ⟨r64, hm63, h⟩ := h
                          refine plan_pure (i := 2) (d := 99) (S2 := 7) (v := Sl.v r64) rfl (by decide +kernel) rfl (q_cut slice28 hm63 rfl ⟨_, rfl⟩ rfl) ?_
                          refine plan_pure (i := 4) (d := 101) (S2 := 23) (v := .int .i64 s53) rfl (by decide +kernel) rfl (q_move e61_13) ?_
                          refine plan_one (j := 3) (S2 := 31) (by decide +kernel) rfl (by decide) rfl ?_
                          refine do_call2 body12 (keelsonalike_Fill_s _ _ _ h) rfl ?_
                          rintro _ H65 ⟨y66, rfl, h⟩
                          refine ⟨_, rfl, ?_⟩
                          obtain ⟨r68, hm67, h⟩ := h
                          refine plan_pure (i := 5) (d := 102) (S2 := 63) (v := Sl.v r68) rfl (by decide +kernel) rfl (q_cut slice28 hm67 rfl ⟨_, rfl⟩ rfl) ?_
                          refine plan_one (j := 6) (S2 := 127) (by decide +kernel) rfl (by decide) rfl ?_
                          refine do_call2 body15 (keelsonalike_Bytes_s _ _ _ _ h) rfl ?_
                          rintro _ H69 ⟨y70, rfl, h⟩
                          refine ⟨_, rfl, ?_⟩
                          refine plan_pure (i := 7) (d := 104) (S2 := 255) (v := .bool (!y70)) rfl (by decide +kernel) rfl (q_not rfl) ?_
                          refine plan_done (by decide +kernel) ?_
                          rcases bor (!y70) with hc71 | hc71
                          · have h := h.1 hc71
                            refine Go.condT (btT rfl hc71) ?_
                            refine Go.seq ?_
                            refine Go.region rfl ?_
                            refine GoOps.q (v := .bool false) rfl rfl (by decide) (q_assign rfl) ?_
                            refine GoOps.nil ?_
                            exact Go.ret ⟨.inl rfl, _, _, DOk.nil, (resOk1 Try.results4 rfl), ⟨_, rfl, h⟩⟩
                          · have h := h.2 hc71
                            refine Go.condF (btF rfl hc71) ?_
                            refine Go.skip ?_
                            refine Go.seq ?_
                            refine Go.region rfl ?_
                            refine GoOps.q (v := .int .i64 0) rfl rfl (by decide) (q_assign rfl) ?_
                            refine GoOps.nil ?_
                            refine Go.seq ?_
                            refine Go.seq ?_
                            refine Go.region rfl ?_
                            refine GoOps.q (v := .int .i64 s39.2) rfl rfl (by decide) (q_move e61_10) ?_
                            refine GoOps.q (v := Sl.v p0) rfl rfl (by decide) (q_move e61_0) ?_
                            refine GoOps.q (v := .int .i64 (p0.len : Int)) rfl rfl (by decide) (q_len Try.underlying37 rfl (ls1 rfl)) ?_
                            refine GoOps.q (v := .bool (decide (s39.2 < (p0.len : Int)))) rfl rfl (by decide) (q_lss rfl rfl) ?_
                            refine GoOps.nil ?_
                            refine join_go 1 (fun ρ (s72 : Int) => ρ 0 = Sl.v p0 ∧ ρ 3 = .int .i64 (IntKind.wrap .i64 ((p0.len : Int) + 2)) ∧ ρ 8 = .pointer y37 ∧ ρ 9 = .int .i64 s39.1 ∧ ρ 10 = .int .i64 s39.2 ∧ ρ 13 = .int .i64 s53 ∧ ρ 14 = .int .i64 s72) h ?_ ?_ <;> clear h
                            · intro s72 H74 ρ h hE
                              obtain ⟨e75_0, e75_3, e75_8, e75_9, e75_10, e75_13, e75_14⟩ := hE
                              refine Go.seq ?_
                              refine Go.region rfl ?_
                              refine GoOps.q (v := .int .i64 0) rfl rfl (by decide) (q_assign rfl) ?_
                              refine GoOps.nil ?_
                              refine Go.seq ?_
                              refine Go.seq ?_
                              refine Go.region rfl ?_
                              refine GoOps.q (v := .int .i64 s72) rfl rfl (by decide) (q_move e75_14) ?_
                              refine GoOps.q (v := .int .i64 (Int.tmod s72 3)) rfl rfl (by decide) (q_rem (by decide) rfl rfl) ?_
                              refine GoOps.q (v := .bool ((Int.tmod s72 3) == 1)) rfl rfl (by decide) (q_eql rfl rfl) ?_
                              refine GoOps.nil ?_
                              refine join_go 1 (fun ρ (s76 : Int) => ρ 0 = Sl.v p0 ∧ ρ 3 = .int .i64 (IntKind.wrap .i64 ((p0.len : Int) + 2)) ∧ ρ 8 = .pointer y37 ∧ ρ 9 = .int .i64 s39.1 ∧ ρ 10 = .int .i64 s39.2 ∧ ρ 13 = .int .i64 s53 ∧ ρ 14 = .int .i64 s72 ∧ ρ 15 = .int .i64 s76) h ?_ ?_ <;> clear h
                              · intro s76 H78 ρ h hE
                                obtain ⟨e79_0, e79_3, e79_8, e79_9, e79_10, e79_13, e79_14, e79_15⟩ := hE
                                refine Go.seq ?_
                                refine Go.seq ?_
                                refine Go.region rfl ?_
                                refine GoOps.q (v := .int .i64 s72) rfl rfl (by decide) (q_move e79_14) ?_
                                refine GoOps.q (v := .int .i64 (Int.tmod s72 3)) rfl rfl (by decide) (q_rem (by decide) rfl rfl) ?_
                                refine GoOps.q (v := .bool ((Int.tmod s72 3) == 2)) rfl rfl (by decide) (q_eql rfl rfl) ?_
                                refine GoOps.nil ?_
                                refine join_go 1 (fun ρ (s80 : Int × Int) => ρ 0 = Sl.v p0 ∧ ρ 3 = .int .i64 (IntKind.wrap .i64 ((p0.len : Int) + 2)) ∧ ρ 8 = .pointer y37 ∧ ρ 9 = .int .i64 s80.1 ∧ ρ 10 = .int .i64 s39.2 ∧ ρ 13 = .int .i64 s53 ∧ ρ 15 = .int .i64 s80.2) h ?_ ?_ <;> clear h
                                · intro s80 H82 ρ h hE
                                  obtain ⟨e83_0, e83_3, e83_8, e83_9, e83_10, e83_13, e83_15⟩ := hE
                                  refine Go.seq ?_
                                  refine Go.region rfl ?_
                                  refine GoOps.q (v := .int .i64 s53) rfl rfl (by decide) (q_move e83_13) ?_
                                  refine GoOps.q (v := .int .i64 s80.2) rfl rfl (by decide) (q_move e83_15) ?_
                                  refine GoOps.q (v := .bool (s53 != s80.2)) rfl rfl (by decide) (q_neq rfl rfl) ?_
                                  refine GoOps.nil ?_
                                  rcases bor (s53 != s80.2) with hc84 | hc84
                                  · have h := h.1 hc84
                                    refine Go.condT (btT rfl hc84) ?_
                                    refine Go.seq ?_
                                    refine Go.region rfl ?_
                                    refine GoOps.q (v := .bool false) rfl rfl (by decide) (q_assign rfl) ?_
                                    refine GoOps.nil ?_
                                    exact Go.ret ⟨.inl rfl, _, _, DOk.nil, (resOk1 Try.results4 rfl), ⟨_, rfl, h⟩⟩
                                  · have h := h.2 hc84
                                    refine Go.condF (btF rfl hc84) ?_
                                    refine Go.skip ?_
                                    refine Go.inBlock ?_
                                    refine Go.region rfl ?_
                                    refine GoOps.q (v := .int .i64 s39.2) rfl rfl (by decide) (q_move e83_10) ?_
                                    refine GoOps.q (v := .int .i64 (IntKind.wrap .i64 (s39.2 + 1))) rfl rfl (by decide) (q_add rfl rfl) ?_
                                    refine GoOps.q (v := .int .i64 (IntKind.wrap .i64 (s39.2 + 1))) rfl rfl (by decide) (q_assign rfl) ?_
                                    refine GoOps.nil ?_
                                    exact hagain40 _ _ _ h ⟨e83_0, e83_3, e83_8, e83_9, rfl⟩
                                · intro j81 hj81 h
                                  rcases bor ((Int.tmod s72 3) == 2) with hc85 | hc85
                                  · have h := h.1 hc85
                                    refine Go.condT (btT rfl hc85) ?_
                                    refine Go.seq ?_
                                    refine Go.region rfl ?_
                                    refine GoOps.q (v := .int .i64 s39.1) rfl rfl (by decide) (q_move e79_9) ?_
                                    refine GoOps.q (v := .int .i64 (IntKind.wrap .i64 (s39.1 + 1))) rfl rfl (by decide) (q_add rfl rfl) ?_
                                    refine GoOps.q (v := .int .i64 (IntKind.wrap .i64 (s39.1 + 1))) rfl rfl (by decide) (q_assign rfl) ?_
                                    refine GoOps.nil ?_
                                    refine Go.seq ?_
                                    refine Go.region rfl ?_
                                    refine GoOps.q (v := .int .i64 (IntKind.wrap .i64 (s39.1 + 1))) rfl rfl (by decide) (q_move rfl) ?_
                                    refine GoOps.q (v := .bool ((IntKind.wrap .i64 (s39.1 + 1)) == 1)) rfl rfl (by decide) (q_eql rfl rfl) ?_
                                    refine GoOps.nil ?_
                                    rcases bor ((IntKind.wrap .i64 (s39.1 + 1)) == 1) with hc86 | hc86
                                    · have h := h.1 hc86
                                      refine Go.condT (btT rfl hc86) ?_
                                      refine Go.region rfl ?_
                                      refine GoOps.q (v := .int .i64 s72) rfl rfl (by decide) (q_move e79_14) ?_
                                      refine GoOps.q (v := .int .i64 (IntKind.wrap .i64 (Int.tdiv s72 3))) rfl rfl (by decide) (q_quo (by decide) rfl rfl) ?_
                                      refine GoOps.q (v := .int .i64 (IntKind.wrap .i64 (Int.tdiv s72 3))) rfl rfl (by decide) (q_assign rfl) ?_
                                      refine GoOps.nil ?_
                                      exact hj81 _ _ _ h ⟨e79_0, e79_3, e79_8, rfl, e79_10, e79_13, rfl⟩
                                    · have h := h.2 hc86
                                      refine Go.condF (btF rfl hc86) ?_
                                      refine Go.skip ?_
                                      exact hj81 _ _ _ h ⟨e79_0, e79_3, e79_8, rfl, e79_10, e79_13, e79_15⟩
                                  · have h := h.2 hc85
                                    refine Go.condF (btF rfl hc85) ?_
                                    refine Go.skip ?_
                                    exact hj81 _ _ _ h ⟨e79_0, e79_3, e79_8, e79_9, e79_10, e79_13, e79_15⟩
                              · intro j77 hj77 h
                                rcases bor ((Int.tmod s72 3) == 1) with hc87 | hc87
                                · have h := h.1 hc87
                                  refine Go.condT (btT rfl hc87) ?_
                                  refine Go.region rfl ?_
                                  refine GoOps.q (v := .int .i64 64) rfl rfl (by decide) (q_assign rfl) ?_
                                  refine GoOps.nil ?_
                                  exact hj77 _ _ _ h ⟨e75_0, e75_3, e75_8, e75_9, e75_10, e75_13, e75_14, rfl⟩
                                · have h := h.2 hc87
                                  refine Go.condF (btF rfl hc87) ?_
                                  refine Go.skip ?_
                                  exact hj77 _ _ _ h ⟨e75_0, e75_3, e75_8, e75_9, e75_10, e75_13, e75_14, rfl⟩
                            · intro j73 hj73 h
                              rcases bor (decide (s39.2 < (p0.len : Int))) with hc88 | hc88
                              · have h := h.1 hc88
                                refine Go.condT (btT rfl hc88) ?_
                                refine Go.region rfl ?_
                                refine GoOps.q (v := Sl.v p0) rfl rfl (by decide) (q_move e61_0) ?_
                                refine GoOps.q (v := .int .i64 s39.2) rfl rfl (by decide) (q_move e61_10) ?_
                                obtain ⟨a89, ha90, h⟩ := h
                                refine GoOps.q (v := .pointer (some a89)) rfl rfl (by decide) (q_idx slice37 ha90 rfl rfl) ?_
                                obtain ⟨x91, hx92, h⟩ := h
                                refine GoOps.q (v := .int .i64 x91) rfl rfl (by decide) (q_load scalar3 rfl hx92) ?_
                                refine call_dst rfl (by decide) body9 (keelsonalike_Round_s _ _ _ _ h) rfl ?_
                                rintro _ H93 ⟨y94, rfl, h⟩
                                refine GoOps.q (v := .int .i64 y94) rfl rfl (by decide) (q_assign rfl) ?_
                                refine GoOps.nil ?_
                                exact hj73 _ _ _ h ⟨e61_0, e61_3, e61_8, e61_9, e61_10, e61_13, rfl⟩
                              · have h := h.2 hc88
                                refine Go.condF (btF rfl hc88) ?_
                                refine Go.skip ?_
                                exact hj73 _ _ _ h ⟨e61_0, e61_3, e61_8, e61_9, e61_10, e61_13, rfl⟩
                      · intro j59 hj59 h
                        rcases bor (decide (s53 < 64)) with hc57 | hc57
                        · have h := h.1 hc57
                          refine plan_pure (i := 3) (d := 84) (S2 := 15) (v := Sl.v y45) rfl (by decide +kernel) (want_yes rfl rfl rfl hc57) (q_move e55_11) ?_
                          refine plan_pure (i := 4) (d := 85) (S2 := 31) (v := .int .i64 s53) rfl (by decide +kernel) (want_yes rfl rfl rfl hc57) (q_move e55_13) ?_
                          obtain ⟨a95, ha96, h⟩ := h
                          refine plan_pure (i := 5) (d := 86) (S2 := 63) (v := .pointer (some a95)) rfl (by decide +kernel) (want_yes rfl rfl rfl hc57) (q_idx slice28 ha96 rfl rfl) ?_
                          obtain ⟨x97, hx98, h⟩ := h
                          refine plan_load (i := 6) (d := 87) (S2 := 127) (v := .int .u8 x97) rfl (by decide +kernel) (want_yes rfl rfl rfl hc57) (q_load scalar5 rfl hx98) ?_
                          refine plan_pure (i := 7) (d := 88) (S2 := 255) (v := .int .i64 s39.2) rfl (by decide +kernel) (want_yes rfl rfl rfl hc57) (q_move e55_10) ?_
                          refine plan_pure (i := 9) (d := 90) (S2 := 767) (v := .int .i64 s53) rfl (by decide +kernel) (want_yes rfl rfl rfl hc57) (q_move e55_13) ?_
                          refine plan_one (j := 8) (S2 := 1023) (by decide +kernel) rfl (by decide) (want_yes rfl rfl rfl hc57) ?_
                          refine do_call2 body12 (keelsonalike_Fill_s _ _ _ h) rfl ?_
                          rintro _ H99 ⟨y100, rfl, h⟩
                          obtain ⟨hr101, h⟩ := h
                          refine ⟨_, (.inr ⟨⟨_, _, rfl, rfl, q_load scalar5 rfl hr101⟩, _, rfl, rfl⟩), ?_⟩
                          obtain ⟨a102, ha103, h⟩ := h
                          refine plan_pure (i := 10) (d := 91) (S2 := 2047) (v := .pointer (some a102)) rfl (by decide +kernel) (want_yes rfl rfl rfl hc57) (q_idx slice28 ha103 rfl rfl) ?_
                          obtain ⟨x104, hx105, h⟩ := h
                          refine plan_load (i := 11) (d := 92) (S2 := 4095) (v := .int .u8 x104) rfl (by decide +kernel) (want_yes rfl rfl rfl hc57) (q_load scalar5 rfl hx105) ?_
                          refine plan_pure (i := 12) (d := 93) (S2 := 8191) (v := .bool (x97 == x104)) rfl (by decide +kernel) (want_yes rfl rfl rfl hc57) (q_eql rfl rfl) ?_
                          refine plan_pure (i := 13) (d := 94) (S2 := 16383) (v := .bool (x97 == x104)) rfl (by decide +kernel) rfl (q_pickT (btT rfl hc57) rfl) ?_
                          exact hj59 _ _ _ h ⟨e55_0, e55_3, e55_8, e55_9, e55_10, e55_11, e55_13, rfl⟩
                        · have h := h.2 hc57
                          refine plan_skip (i := 3) (d := 84) (S2 := 15) rfl (by decide +kernel) (want_no rfl rfl rfl hc57) ?_
                          refine plan_skip (i := 4) (d := 85) (S2 := 31) rfl (by decide +kernel) (want_no rfl rfl rfl hc57) ?_
                          refine plan_skip (i := 5) (d := 86) (S2 := 63) rfl (by decide +kernel) (want_no rfl rfl rfl hc57) ?_
                          refine plan_skip (i := 6) (d := 87) (S2 := 127) rfl (by decide +kernel) (want_no rfl rfl rfl hc57) ?_
                          refine plan_skip (i := 7) (d := 88) (S2 := 255) rfl (by decide +kernel) (want_no rfl rfl rfl hc57) ?_
                          refine plan_skip (i := 8) (d := 89) (S2 := 511) rfl (by decide +kernel) (want_no rfl rfl rfl hc57) ?_
                          refine plan_skip (i := 9) (d := 90) (S2 := 1023) rfl (by decide +kernel) (want_no rfl rfl rfl hc57) ?_
                          refine plan_skip (i := 10) (d := 91) (S2 := 2047) rfl (by decide +kernel) (want_no rfl rfl rfl hc57) ?_
                          refine plan_skip (i := 11) (d := 92) (S2 := 4095) rfl (by decide +kernel) (want_no rfl rfl rfl hc57) ?_
                          refine plan_skip (i := 12) (d := 93) (S2 := 8191) rfl (by decide +kernel) (want_no rfl rfl rfl hc57) ?_
                          refine plan_pure (i := 13) (d := 94) (S2 := 16383) (v := .bool false) rfl (by decide +kernel) rfl (q_pickF (btF rfl hc57) rfl) ?_
                          refine plan_weaken (L2 := [11, 6]) (by decide) ?_
                          exact hj59 _ _ _ h ⟨e55_0, e55_3, e55_8, e55_9, e55_10, e55_11, e55_13, rfl⟩
                  · intro j49 hj49 h
                    rcases bor (y46 != 0) with hc47 | hc47
                    · have h := h.1 hc47
                      refine no_dst (want_no rfl rfl rfl hc47) rfl (by decide) ?_
                      refine no_dst (want_no rfl rfl rfl hc47) rfl (by decide) ?_
                      refine no_dst (want_no rfl rfl rfl hc47) rfl (by decide) ?_
                      refine GoOps.q (v := .bool true) rfl rfl (by decide) (q_pickT (btT rfl hc47) rfl) ?_
                      exact hj49 true _ _ h (by exact ⟨e41_0, e41_3, e41_8, e41_9, e41_10, rfl, rfl⟩)
                    · have h := h.2 hc47
                      refine GoOps.q (v := Sl.v y45) (want_yes rfl rfl rfl hc47) rfl (by decide) (q_move rfl) ?_
                      refine GoOps.q (v := .int .i64 (y45.len : Int)) (want_yes rfl rfl rfl hc47) rfl (by decide) (q_len Try.underlying28 rfl (ls1 rfl)) ?_
                      refine GoOps.q (v := .bool ((y45.len : Int) != 64)) (want_yes rfl rfl rfl hc47) rfl (by decide) (q_neq rfl rfl) ?_
                      refine GoOps.q (v := .bool ((y45.len : Int) != 64)) rfl rfl (by decide) (q_pickF (btF rfl hc47) rfl) ?_
                      exact hj49 ((y45.len : Int) != 64) _ _ h (by exact ⟨e41_0, e41_3, e41_8, e41_9, e41_10, rfl, rfl⟩)
                · have h := h.2 hc43
                  refine Go.condF (btF rfl hc43) ?_
                  refine Go.exit rfl ?_
                  refine Go.seq ?_
                  refine Go.region rfl ?_
                  refine call_dst rfl (by decide) body17 (keelsonlaw3_awake_s _ _ h) rfl ?_
                  rintro _ H106 ⟨y107, rfl, h⟩
                  refine GoOps.q (v := .bool y107) rfl rfl (by decide) (q_assign rfl) ?_
                  refine GoOps.nil ?_
                  exact Go.ret ⟨.inl rfl, _, _, DOk.nil, (resOk1 Try.results4 rfl), ⟨_, rfl, h⟩⟩
    · intro j9 hj9 h
      rcases bor (y6 != 0) with hc7 | hc7
      · have h := h.1 hc7
        refine no_dst (want_no rfl rfl rfl hc7) rfl (by decide) ?_
        refine no_dst (want_no rfl rfl rfl hc7) rfl (by decide) ?_
        refine GoOps.q (v := .bool true) rfl rfl (by decide) (q_pickT (btT rfl hc7) rfl) ?_
        exact hj9 true _ _ h (by exact ⟨rfl, rfl, rfl, rfl⟩)
      · have h := h.2 hc7
        refine GoOps.q (v := .pointer y5) (want_yes rfl rfl rfl hc7) rfl (by decide) (q_move rfl) ?_
        refine GoOps.q (v := .bool (Option.isNone y5)) (want_yes rfl rfl rfl hc7) rfl (by decide) (q_eqlPn Try.underlying23 rfl rfl) ?_
        refine GoOps.q (v := .bool (Option.isNone y5)) rfl rfl (by decide) (q_pickF (btF rfl hc7) rfl) ?_
        exact hj9 (Option.isNone y5) _ _ h (by exact ⟨rfl, rfl, rfl, rfl⟩)

/-- (*keelson.vdisk.Disk).Acts -/
def vdisk_Disk_Acts (p0 : Option Addr) (H : PH) (Q : Int → PH → Prop) : Prop :=
  mIf (Option.isNone p0)
  (Q 0 H)
  (mNil p0 fun a2 =>
  mLd (.int .i64) H (a2.add 5) fun x4 =>
  Q x4 H)

set_option maxRecDepth 20000 in
set_option maxHeartbeats 1000000 in
theorem vdisk_Disk_Acts_s (p0 : Option Addr) (H : PH) (Q : Int → PH → Prop) (h : vdisk_Disk_Acts p0 H Q) :
    CallsH Try.prog 20 #[.pointer p0] H (fun v H' => ∃ (r0 : Int), v = .int .i64 r0 ∧ Q r0 H') := by
  unfold vdisk_Disk_Acts at h
  refine callsH_of_go Try.func20 rfl Try.ntmps20 (Nat.le_of_ble_eq_true rfl) ?_
  refine Go.seq ?_
  refine Go.region rfl ?_
  refine GoOps.q (v := .int .i64 0) rfl rfl (by decide) (q_assign rfl) ?_
  refine GoOps.nil ?_
  refine Go.seq ?_
  refine Go.seq ?_
  refine Go.region rfl ?_
  refine GoOps.q (v := .pointer p0) rfl rfl (by decide) (q_move rfl) ?_
  refine GoOps.q (v := .bool (Option.isNone p0)) rfl rfl (by decide) (q_eqlPn Try.underlying23 rfl rfl) ?_
  refine GoOps.nil ?_
  rcases bor (Option.isNone p0) with hc1 | hc1
  · have h := h.1 hc1
    refine Go.condT (btT rfl hc1) ?_
    refine Go.seq ?_
    refine Go.region rfl ?_
    refine GoOps.q (v := .int .i64 0) rfl rfl (by decide) (q_assign rfl) ?_
    refine GoOps.nil ?_
    exact Go.ret ⟨.inl rfl, _, _, DOk.nil, (resOk1 Try.results20 rfl), ⟨_, rfl, h⟩⟩
  · have h := h.2 hc1
    refine Go.condF (btF rfl hc1) ?_
    refine Go.skip ?_
    refine Go.seq ?_
    refine Go.region rfl ?_
    refine GoOps.q (v := .pointer p0) rfl rfl (by decide) (q_move rfl) ?_
    obtain ⟨a2, ha3, h⟩ := h
    refine GoOps.q (v := .pointer (some a2)) rfl rfl (by decide) (q_nilCheck (ptn rfl ha3)) ?_
    refine GoOps.q (v := .pointer (some (a2.add 5))) rfl rfl (by decide) (q_fieldAddr foff69_5 rfl) ?_
    obtain ⟨x4, hx5, h⟩ := h
    refine GoOps.q (v := .int .i64 x4) rfl rfl (by decide) (q_load scalar3 rfl hx5) ?_
    refine GoOps.q (v := .int .i64 x4) rfl rfl (by decide) (q_assign rfl) ?_
    refine GoOps.nil ?_
    exact Go.ret ⟨.inl rfl, _, _, DOk.nil, (resOk1 Try.results20 rfl), ⟨_, rfl, h⟩⟩

/-- keelson.keelsonlaw3.DiskSafe -/
def keelsonlaw3_DiskSafe (p0 : Sl) (p1 : Sl) (p2 : Sl) (H : PH) (Q : Bool → PH → Prop) : Prop :=
  mJoin (fun (s2 : Bool) (H4 : PH) =>
  mJoin (fun (s7 : Bool) (H9 : PH) =>
  mIf s7
  (keelsonlaw3_awake H9 fun y13 H12 =>
  Q y13 H12)
  (vdisk_New 8 H9 fun y15 y16 H14 =>
  mJoin (fun (s18 : Bool) (H20 : PH) =>
  mIf s18
  (Q false H20)
  (mNew H20 (row [.slice none 0 0, .slice none 0 0, .slice none 0 0, .slice none 0 0, .slice none 0 0, .slice none 0 0, .slice none 0 0, .slice none 0 0] 40) fun a23 H24 =>
  mNew H24 (row [.slice none 0 0, .slice none 0 0, .slice none 0 0, .slice none 0 0, .slice none 0 0, .slice none 0 0, .slice none 0 0, .slice none 0 0] 40) fun a26 H27 =>
  mLoop (fun (s29 : Int) (H32 : PH) (again30 : Int → PH → Prop) =>
  mIf (decide (s29 < 8))
  (mMk H32 5 1 [.int .u8 0] 64 64 fun r34 H35 =>
  mIdxA 8 a23 1 s29 fun a38 =>
  mSt H35 a38 ([Sl.v r34]) fun H40 =>
  again30 (IntKind.wrap .i64 (s29 + 1)) H40)
  (mLoop (fun (s42 : Int) (H45 : PH) (again43 : Int → PH → Prop) =>
  mIf (decide (s42 < (p0.len : Int)))
  (mIdx p0 1 s42 fun a47 =>
  mLd (.int .i64) H45 a47 fun x49 =>
  keelsonalike_Round x49 8 H45 fun y52 H51 =>
  keelsonalike_Fill (IntKind.wrap .i64 (s42 + 1)) H51 fun y54 H53 =>
  mIdxA 8 a23 1 y52 fun a55 =>
  mSt H53 a55 ([Sl.v y54]) fun H57 =>
  mIdxA 8 a23 1 y52 fun a59 =>
  mLd Sl.v H57 a59 fun x61 =>
  vdisk_Disk_Write y15 y52 x61 H57 fun y64 H63 =>
  mIf (y64 != 0)
  (Q false H63)
  (again43 (IntKind.wrap .i64 (s42 + 1)) H63))
  (vdisk_Disk_Flush y15 H45 fun y67 H66 =>
  mIf (y67 != 0)
  (Q false H66)
  (mNew H66 (row [.slice none 0 0, .slice none 0 0, .slice none 0 0, .slice none 0 0, .slice none 0 0, .slice none 0 0, .slice none 0 0, .slice none 0 0] 42) fun a69 H70 =>
  mLoop (fun (s72 : Int) (H75 : PH) (again73 : Int → PH → Prop) =>
  mIf (decide (s72 < (p1.len : Int)))
  (mIdx p1 1 s72 fun a77 =>
  mLd (.int .i64) H75 a77 fun x79 =>
  keelsonalike_Round x79 8 H75 fun y82 H81 =>
  keelsonalike_Fill (IntKind.wrap .i64 (100 + s72)) H81 fun y84 H83 =>
  mIdxA 8 a26 1 y82 fun a85 =>
  mSt H83 a85 ([Sl.v y84]) fun H87 =>
  mIdxA 8 a69 1 y82 fun a89 =>
  mLd Sl.v H87 a89 fun x91 =>
  mIdxA 8 a26 1 y82 fun a93 =>
  mLd Sl.v H87 a93 fun x95 =>
  mNewS H87 (row [Sl.v x95] 28) 1 fun r97 H98 =>
  mSame H98 a89 (Sl.v x91) <|
  mApp H98 28 1 24 [.slice none 0 0] x91 r97 fun r101 H102 =>
  mIdxA 8 a69 1 y82 fun a103 =>
  mSt H102 a103 ([Sl.v r101]) fun H105 =>
  mIdxA 8 a26 1 y82 fun a107 =>
  mLd Sl.v H105 a107 fun x109 =>
  vdisk_Disk_Write y15 y82 x109 H105 fun y112 H111 =>
  mIf (y112 != 0)
  (Q false H111)
  (again73 (IntKind.wrap .i64 (s72 + 1)) H111))
  (vdisk_Disk_Crash y15 p2 H75 fun y115 H114 =>
  mJoin (fun (s117 : Bool) (H119 : PH) =>
  mJoin (fun (s122 : Bool) (H124 : PH) =>
  mJoin (fun (s127 : Bool) (H129 : PH) =>
  mIf s127
  (Q false H129)
  (mLoop (fun (s132 : Int) (H135 : PH) (again133 : Int → PH → Prop) =>
  mIf (decide (s132 < 8))
  (vdisk_Disk_Read y115 s132 H135 fun y138 y139 H137 =>
  mJoin (fun (s141 : Bool) (H143 : PH) =>
  mIf s141
  (Q false H143)
  (mLoop (fun (s146 : Int) (H149 : PH) (again147 : Int → PH → Prop) =>
  mIf (decide (s146 < 64))
  (mIdx y138 1 s146 fun a151 =>
  mLd (.int .u8) H149 a151 fun x153 =>
  mIdxA 8 a23 1 s132 fun a155 =>
  mLd Sl.v H149 a155 fun x157 =>
  mIdx x157 1 s146 fun a159 =>
  mLd (.int .u8) H149 a159 fun x161 =>
  mLoop (fun (s163 : Bool × Int) (H166 : PH) (again164 : (Bool × Int) → PH → Prop) =>
  mIdxA 8 a69 1 s132 fun a167 =>
  mLd Sl.v H166 a167 fun x169 =>
  mIf (decide (s163.2 < (x169.len : Int)))
  (mJoin (fun (s173 : Bool) (H175 : PH) =>
  again164 (s173, IntKind.wrap .i64 (s163.2 + 1)) H175)
  fun j174 =>
  mIf s163.1
  (j174 true H166)
  (mIdx y138 1 s146 fun a177 =>
  mLd (.int .u8) H166 a177 fun x179 =>
  mIdxA 8 a69 1 s132 fun a181 =>
  mLd Sl.v H166 a181 fun x183 =>
  mIdx x183 1 s163.2 fun a185 =>
  mLd Sl.v H166 a185 fun x187 =>
  mIdx x187 1 s146 fun a189 =>
  mLd (.int .u8) H166 a189 fun x191 =>
  j174 (x179 == x191) H166))
  (mIf (!s163.1)
  (Q false H166)
  (again147 (IntKind.wrap .i64 (s146 + 1)) H166)))
  (x153 == x161, 0) H149)
  (again133 (IntKind.wrap .i64 (s132 + 1)) H149))
  0 H143))
  fun j142 =>
  mIf (y139 != 0)
  (j142 true H137)
  (j142 ((y138.len : Int) != 64) H137))
  (keelsonlaw3_awake H135 fun y195 H194 =>
  Q y195 H194))
  0 H129))
  fun j128 =>
  mIf s122
  (j128 true H124)
  (vdisk_Disk_Off y115 H124 fun y197 H196 =>
  j128 y197 H196))
  fun j123 =>
  mIf s117
  (j123 true H119)
  (vdisk_Disk_Acts y115 H119 fun y199 H198 =>
  j123 (y199 != 0) H198))
  fun j118 =>
  mIf (Option.isNone y115)
  (j118 true H114)
  (vdisk_Disk_Held y115 H114 fun y201 H200 =>
  j118 (y201 != 0) H200)))
  0 H70)))
  0 H32))
  0 H27))
  fun j19 =>
  mIf (y16 != 0)
  (j19 true H14)
  (j19 (Option.isNone y15) H14)))
  fun j8 =>
  mIf s2
  (j8 true H4)
  (j8 (decide (60 < (p2.len : Int))) H4))
  fun j3 =>
  mIf (decide (30 < (p0.len : Int)))
  (j3 true H)
  (j3 (decide (30 < (p1.len : Int))) H)

set_option maxRecDepth 20000 in
set_option maxHeartbeats 1000000 in
theorem keelsonlaw3_DiskSafe_s (p0 : Sl) (p1 : Sl) (p2 : Sl) (H : PH) (Q : Bool → PH → Prop) (h : keelsonlaw3_DiskSafe p0 p1 p2 H Q) :
    CallsH Try.prog 5 #[Sl.v p0, Sl.v p1, Sl.v p2] H (fun v H' => ∃ (r0 : Bool), v = .bool r0 ∧ Q r0 H') := by
  unfold keelsonlaw3_DiskSafe at h
  refine callsH_of_go Try.func5 rfl Try.ntmps5 (Nat.le_of_ble_eq_true rfl) ?_
  refine Go.seq ?_
  refine Go.region rfl ?_
  refine GoOps.q (v := .bool false) rfl rfl (by decide) (q_assign rfl) ?_
  refine GoOps.nil ?_
  refine Go.seq ?_
  refine Go.seq ?_
  refine Go.region rfl ?_
  refine GoOps.q (v := Sl.v p0) rfl rfl (by decide) (q_move rfl) ?_
  refine GoOps.q (v := .int .i64 (p0.len : Int)) rfl rfl (by decide) (q_len Try.underlying37 rfl (ls1 rfl)) ?_
  refine GoOps.q (v := .bool (decide (30 < (p0.len : Int)))) rfl rfl (by decide) (q_gtr rfl rfl) ?_
  refine GoOps.q (v := .bool (decide (30 < (p0.len : Int)))) rfl rfl (by decide) (q_move rfl) ?_
  refine join_ops 4 (fun ρ (s2 : Bool) => ρ 0 = Sl.v p0 ∧ ρ 1 = Sl.v p1 ∧ ρ 2 = Sl.v p2 ∧ ρ 31 = .bool s2) h ?_ ?_ <;> clear h
  · intro s2 H4 ρ h hE
    obtain ⟨e5_0, e5_1, e5_2, e5_31⟩ := hE
    refine GoOps.q (v := .bool s2) rfl rfl (by decide) (q_move e5_31) ?_
    refine join_ops 4 (fun ρ (s7 : Bool) => ρ 0 = Sl.v p0 ∧ ρ 1 = Sl.v p1 ∧ ρ 2 = Sl.v p2 ∧ ρ 36 = .bool s7) h ?_ ?_ <;> clear h
    · intro s7 H9 ρ h hE
      obtain ⟨e10_0, e10_1, e10_2, e10_36⟩ := hE
      refine GoOps.nil ?_
      rcases bor s7 with hc11 | hc11
      · have h := h.1 hc11
        refine Go.condT (btT e10_36 hc11) ?_
        refine Go.seq ?_
        refine Go.region rfl ?_
        refine call_dst rfl (by decide) body17 (keelsonlaw3_awake_s _ _ h) rfl ?_
        rintro _ H12 ⟨y13, rfl, h⟩
        refine GoOps.q (v := .bool y13) rfl rfl (by decide) (q_assign rfl) ?_
        refine GoOps.nil ?_
        exact Go.ret ⟨.inl rfl, _, _, DOk.nil, (resOk1 Try.results5 rfl), ⟨_, rfl, h⟩⟩
      · have h := h.2 hc11
        refine Go.condF (btF e10_36 hc11) ?_
        refine Go.skip ?_
        refine Go.seq ?_
        refine Go.region rfl ?_
        refine call_dst rfl (by decide) body10 (vdisk_New_s _ _ _ h) rfl ?_
        rintro _ H14 ⟨y15, y16, rfl, h⟩
        refine GoOps.q (v := .tuple #[.pointer y15, .int .i64 y16]) rfl rfl (by decide) (q_move rfl) ?_
        refine GoOps.q (v := .pointer y15) rfl rfl (by decide) (q_extract rfl rfl) ?_
        refine GoOps.q (v := .int .i64 y16) rfl rfl (by decide) (q_extract rfl rfl) ?_
        refine GoOps.q (v := .pointer y15) rfl rfl (by decide) (q_assign rfl) ?_
        refine GoOps.q (v := .int .i64 y16) rfl rfl (by decide) (q_assign rfl) ?_
        refine GoOps.nil ?_
        refine Go.seq ?_
        refine Go.seq ?_
        refine Go.region rfl ?_
        refine GoOps.q (v := .int .i64 y16) rfl rfl (by decide) (q_move rfl) ?_
        refine GoOps.q (v := .bool (y16 != 0)) rfl rfl (by decide) (q_neq rfl rfl) ?_
        refine GoOps.q (v := .bool (y16 != 0)) rfl rfl (by decide) (q_move rfl) ?_
        refine join_ops 3 (fun ρ (s18 : Bool) => ρ 0 = Sl.v p0 ∧ ρ 1 = Sl.v p1 ∧ ρ 2 = Sl.v p2 ∧ ρ 7 = .pointer y15 ∧ ρ 47 = .bool s18) h ?_ ?_ <;> clear h
        · intro s18 H20 ρ h hE
          obtain ⟨e21_0, e21_1, e21_2, e21_7, e21_47⟩ := hE
          refine GoOps.nil ?_
          rcases bor s18 with hc22 | hc22
          · have h := h.1 hc22
            refine Go.condT (btT e21_47 hc22) ?_
            refine Go.seq ?_
            refine Go.region rfl ?_
            refine GoOps.q (v := .bool false) rfl rfl (by decide) (q_assign rfl) ?_
            refine GoOps.nil ?_
            exact Go.ret ⟨.inl rfl, _, _, DOk.nil, (resOk1 Try.results5 rfl), ⟨_, rfl, h⟩⟩
          · have h := h.2 hc22
            refine Go.condF (btF e21_47 hc22) ?_
            refine Go.skip ?_
            refine Go.seq ?_
            refine Go.region rfl ?_
            refine op_dst rfl rfl (by decide) (do_new zero40 rfl fun a23 H24 hb25 => ?_) 
            have h := h a23 H24 hb25
            refine op_dst rfl rfl (by decide) (do_new zero40 rfl fun a26 H27 hb28 => ?_) 
            have h := h a26 H27 hb28
            refine GoOps.nil ?_
            refine Go.seq ?_
            refine Go.seq ?_
            refine Go.region rfl ?_
            refine GoOps.q (v := .int .i64 0) rfl rfl (by decide) (q_assign rfl) ?_
            refine GoOps.nil ?_
            refine Go.block ?_
            refine loop_go (fun ρ (s29 : Int) => ρ 0 = Sl.v p0 ∧ ρ 1 = Sl.v p1 ∧ ρ 2 = Sl.v p2 ∧ ρ 7 = .pointer y15 ∧ ρ 9 = .pointer (some a23) ∧ ρ 10 = .pointer (some a26) ∧ ρ 11 = .int .i64 s29) h ⟨e21_0, e21_1, e21_2, e21_7, rfl, rfl, rfl⟩ ?_
            clear h
            intro ρ s29 H32 again30 hE h hagain30
            obtain ⟨e31_0, e31_1, e31_2, e31_7, e31_9, e31_10, e31_11⟩ := hE
            refine Go.seq ?_
            refine Go.seq ?_
            refine Go.region rfl ?_
            refine GoOps.q (v := .int .i64 s29) rfl rfl (by decide) (q_move e31_11) ?_
            refine GoOps.q (v := .bool (decide (s29 < 8))) rfl rfl (by decide) (q_lss rfl rfl) ?_
            refine GoOps.nil ?_
            rcases bor (decide (s29 < 8)) with hc33 | hc33
            · have h := h.1 hc33
              refine Go.condT (btT rfl hc33) ?_
              refine Go.skip ?_
              refine Go.seq ?_
              refine Go.block ?_
              refine Go.region rfl ?_
              refine GoOps.q (v := .int .i64 s29) rfl rfl (by decide) (q_move e31_11) ?_
              obtain ⟨hm37, h⟩ := h
              refine op_dst rfl rfl (by decide) (do_mk (zs := [.int .u8 0]) slice28 bytes5 (by decide) zero5 rfl rfl (by decide) rfl rfl hm37 fun r34 H35 hb36 => ?_) 
              have h := h r34 H35 hb36
              obtain ⟨a38, ha39, h⟩ := h
              refine GoOps.q (v := .pointer (some a38)) rfl rfl (by decide) (q_idxA array40 ha39 e31_9 rfl) ?_
              obtain ⟨q41b, q41o, q41c, q41e, hq41a, hq41b, hq41l, hq41v, h⟩ := h
              refine op_none rfl rfl (do_store (vs := [Sl.v r34]) size28 (pta rfl hq41a) rfl rfl rfl hq41v hq41b hq41l ?_) 
              refine GoOps.nil ?_
              refine Go.inBlock ?_
              refine Go.region rfl ?_
              refine GoOps.q (v := .int .i64 s29) rfl rfl (by decide) (q_move e31_11) ?_
              refine GoOps.q (v := .int .i64 (IntKind.wrap .i64 (s29 + 1))) rfl rfl (by decide) (q_add rfl rfl) ?_
              refine GoOps.q (v := .int .i64 (IntKind.wrap .i64 (s29 + 1))) rfl rfl (by decide) (q_assign rfl) ?_
              refine GoOps.nil ?_
              exact hagain30 _ _ _ h ⟨e31_0, e31_1, e31_2, e31_7, e31_9, e31_10, rfl⟩
            · have h := h.2 hc33
              refine Go.condF (btF rfl hc33) ?_
              refine Go.exit rfl ?_
              refine Go.seq ?_
              refine Go.seq ?_
              refine Go.region rfl ?_
              refine GoOps.q (v := .int .i64 0) rfl rfl (by decide) (q_assign rfl) ?_
              refine GoOps.nil ?_
              refine Go.block ?_
              refine loop_go (fun ρ (s42 : Int) => ρ 0 = Sl.v p0 ∧ ρ 1 = Sl.v p1 ∧ ρ 2 = Sl.v p2 ∧ ρ 7 = .pointer y15 ∧ ρ 9 = .pointer (some a23) ∧ ρ 10 = .pointer (some a26) ∧ ρ 12 = .int .i64 s42) h ⟨e31_0, e31_1, e31_2, e31_7, e31_9, e31_10, rfl⟩ ?_
              clear h
              intro ρ s42 H45 again43 hE h hagain43
              obtain ⟨e44_0, e44_1, e44_2, e44_7, e44_9, e44_10, e44_12⟩ := hE
              refine Go.seq ?_
              refine Go.seq ?_
              refine Go.region rfl ?_
              refine GoOps.q (v := .int .i64 s42) rfl rfl (by decide) (q_move e44_12) ?_
              refine GoOps.q (v := Sl.v p0) rfl rfl (by decide) (q_move e44_0) ?_
              refine GoOps.q (v := .int .i64 (p0.len : Int)) rfl rfl (by decide) (q_len Try.underlying37 rfl (ls1 rfl)) ?_
              refine GoOps.q (v := .bool (decide (s42 < (p0.len : Int)))) rfl rfl (by decide) (q_lss rfl rfl) ?_
              refine GoOps.nil ?_
              rcases bor (decide (s42 < (p0.len : Int))) with hc46 | hc46
              · have h := h.1 hc46
                refine Go.condT (btT rfl hc46) ?_
                refine Go.skip ?_
                refine Go.seq ?_
                refine Go.block ?_
                refine Go.seq ?_
                refine Go.region rfl ?_
                refine GoOps.q (v := Sl.v p0) rfl rfl (by decide) (q_move e44_0) ?_
                refine GoOps.q (v := .int .i64 s42) rfl rfl (by decide) (q_move e44_12) ?_
                obtain ⟨a47, ha48, h⟩ := h
                refine GoOps.q (v := .pointer (some a47)) rfl rfl (by decide) (q_idx slice37 ha48 rfl rfl) ?_
                obtain ⟨x49, hx50, h⟩ := h
                refine GoOps.q (v := .int .i64 x49) rfl rfl (by decide) (q_load scalar3 rfl hx50) ?_
                refine call_dst rfl (by decide) body9 (keelsonalike_Round_s _ _ _ _ h) rfl ?_
                rintro _ H51 ⟨y52, rfl, h⟩
                refine GoOps.q (v := .int .i64 y52) rfl rfl (by decide) (q_assign rfl) ?_
                refine GoOps.nil ?_
                refine Go.seq ?_
                refine Go.region rfl ?_
                refine GoOps.q (v := .int .i64 y52) rfl rfl (by decide) (q_move rfl) ?_
                refine GoOps.q (v := .int .i64 s42) rfl rfl (by decide) (q_move e44_12) ?_
                refine GoOps.q (v := .int .i64 (IntKind.wrap .i64 (s42 + 1))) rfl rfl (by decide) (q_add rfl rfl) ?_
                refine call_dst rfl (by decide) body12 (keelsonalike_Fill_s _ _ _ h) rfl ?_
                rintro _ H53 ⟨y54, rfl, h⟩
                obtain ⟨a55, ha56, h⟩ := h
                refine GoOps.q (v := .pointer (some a55)) rfl rfl (by decide) (q_idxA array40 ha56 e44_9 rfl) ?_
                obtain ⟨q58b, q58o, q58c, q58e, hq58a, hq58b, hq58l, hq58v, h⟩ := h
                refine op_none rfl rfl (do_store (vs := [Sl.v y54]) size28 (pta rfl hq58a) rfl rfl rfl hq58v hq58b hq58l ?_) 
                refine GoOps.nil ?_
                refine Go.seq ?_
                refine Go.region rfl ?_
                refine GoOps.q (v := .pointer y15) rfl rfl (by decide) (q_move e44_7) ?_
                refine GoOps.q (v := .int .i64 y52) rfl rfl (by decide) (q_move rfl) ?_
                refine GoOps.q (v := .int .i64 y52) rfl rfl (by decide) (q_move rfl) ?_
                obtain ⟨a59, ha60, h⟩ := h
                refine GoOps.q (v := .pointer (some a59)) rfl rfl (by decide) (q_idxA array40 ha60 e44_9 rfl) ?_
                obtain ⟨x61, hx62, h⟩ := h
                refine GoOps.q (v := Sl.v x61) rfl rfl (by decide) (q_load scalar28 rfl hx62) ?_
                refine call_dst rfl (by decide) body11 (vdisk_Disk_Write_s _ _ _ _ _ h) rfl ?_
                rintro _ H63 ⟨y64, rfl, h⟩
                refine GoOps.q (v := .bool (y64 != 0)) rfl rfl (by decide) (q_neq rfl rfl) ?_
                refine GoOps.nil ?_
                rcases bor (y64 != 0) with hc65 | hc65
                · have h := h.1 hc65
                  refine Go.condT (btT rfl hc65) ?_
                  refine Go.seq ?_
                  refine Go.region rfl ?_
                  refine GoOps.q (v := .bool false) rfl rfl (by decide) (q_assign rfl) ?_
                  refine GoOps.nil ?_
                  exact Go.ret ⟨.inl rfl, _, _, DOk.nil, (resOk1 Try.results5 rfl), ⟨_, rfl, h⟩⟩
                · have h := h.2 hc65
                  refine Go.condF (btF rfl hc65) ?_
                  refine Go.skip ?_
                  refine Go.inBlock ?_
                  refine Go.region rfl ?_
                  refine GoOps.q (v := .int .i64 s42) rfl rfl (by decide) (q_move e44_12) ?_
                  refine GoOps.q (v := .int .i64 (IntKind.wrap .i64 (s42 + 1))) rfl rfl (by decide) (q_add rfl rfl) ?_
                  refine GoOps.q (v := .int .i64 (IntKind.wrap .i64 (s42 + 1))) rfl rfl (by decide) (q_assign rfl) ?_
                  refine GoOps.nil ?_
                  exact hagain43 _ _ _ h ⟨e44_0, e44_1, e44_2, e44_7, e44_9, e44_10, rfl⟩
              · have h := h.2 hc46
                refine Go.condF (btF rfl hc46) ?_
                refine Go.exit rfl ?_
                refine Go.seq ?_
                refine Go.seq ?_
                refine Go.region rfl ?_
                refine GoOps.q (v := .pointer y15) rfl rfl (by decide) (q_move e44_7) ?_
                refine call_dst rfl (by decide) body18 (vdisk_Disk_Flush_s _ _ _ h) rfl ?_
                rintro _ H66 ⟨y67, rfl, h⟩
                refine GoOps.q (v := .bool (y67 != 0)) rfl rfl (by decide) (q_neq rfl rfl) ?_
                refine GoOps.nil ?_
                rcases bor (y67 != 0) with hc68 | hc68
                · have h := h.1 hc68
                  refine Go.condT (btT rfl hc68) ?_
                  refine Go.seq ?_
                  refine Go.region rfl ?_
                  refine GoOps.q (v := .bool false) rfl rfl (by decide) (q_assign rfl) ?_
                  refine GoOps.nil ?_
                  exact Go.ret ⟨.inl rfl, _, _, DOk.nil, (resOk1 Try.results5 rfl), ⟨_, rfl, h⟩⟩
                · have h := h.2 hc68
                  refine Go.condF (btF rfl hc68) ?_
                  refine Go.skip ?_
                  refine Go.seq ?_
                  refine Go.region rfl ?_
                  refine op_dst rfl rfl (by decide) (do_new zero42 rfl fun a69 H70 hb71 => ?_) 
                  have h := h a69 H70 hb71
                  refine GoOps.nil ?_
                  refine Go.seq ?_
                  refine Go.seq ?_
                  refine Go.region rfl ?_
                  refine GoOps.q (v := .int .i64 0) rfl rfl (by decide) (q_assign rfl) ?_
                  refine GoOps.nil ?_
                  refine Go.block ?_
                  refine loop_go (fun ρ (s72 : Int) => ρ 1 = Sl.v p1 ∧ ρ 2 = Sl.v p2 ∧ ρ 7 = .pointer y15 ∧ ρ 9 = .pointer (some a23) ∧ ρ 10 = .pointer (some a26) ∧ ρ 14 = .pointer (some a69) ∧ ρ 15 = .int .i64 s72) h ⟨e44_1, e44_2, e44_7, e44_9, e44_10, rfl, rfl⟩ ?_
                  clear h
                  intro ρ s72 H75 again73 hE h hagain73
                  obtain ⟨e74_1, e74_2, e74_7, e74_9, e74_10, e74_14, e74_15⟩ := hE
                  refine Go.seq ?_
                  refine Go.seq ?_
                  refine Go.region rfl ?_
                  refine GoOps.q (v := .int .i64 s72) rfl rfl (by decide) (q_move e74_15) ?_
                  refine GoOps.q (v := Sl.v p1) rfl rfl (by decide) (q_move e74_1) ?_
                  refine GoOps.q (v := .int .i64 (p1.len : Int)) rfl rfl (by decide) (q_len Try.underlying37 rfl (ls1 rfl)) ?_
                  refine GoOps.q (v := .bool (decide (s72 < (p1.len : Int)))) rfl rfl (by decide) (q_lss rfl rfl) ?_
                  refine GoOps.nil ?_
                  rcases bor (decide (s72 < (p1.len : Int))) with hc76 | hc76
                  · have h := h.1 hc76
                    refine Go.condT (btT rfl hc76) ?_
                    refine Go.skip ?_
                    refine Go.seq ?_
                    refine Go.block ?_
                    refine Go.seq ?_
                    refine Go.region rfl ?_
                    refine GoOps.q (v := Sl.v p1) rfl rfl (by decide) (q_move e74_1) ?_
                    refine GoOps.q (v := .int .i64 s72) rfl rfl (by decide) (q_move e74_15) ?_
                    obtain ⟨a77, ha78, h⟩ := h
                    refine GoOps.q (v := .pointer (some a77)) rfl rfl (by decide) (q_idx slice37 ha78 rfl rfl) ?_
                    obtain ⟨x79, hx80, h⟩ := h
                    refine GoOps.q (v := .int .i64 x79) rfl rfl (by decide) (q_load scalar3 rfl hx80) ?_
                    refine call_dst rfl (by decide) body9 (keelsonalike_Round_s _ _ _ _ h) rfl ?_
                    rintro _ H81 ⟨y82, rfl, h⟩
                    refine GoOps.q (v := .int .i64 y82) rfl rfl (by decide) (q_assign rfl) ?_
                    refine GoOps.nil ?_
                    refine Go.seq ?_
                    refine Go.region rfl ?_
                    refine GoOps.q (v := .int .i64 y82) rfl rfl (by decide) (q_move rfl) ?_
                    refine GoOps.q (v := .int .i64 s72) rfl rfl (by decide) (q_move e74_15) ?_
                    refine GoOps.q (v := .int .i64 (IntKind.wrap .i64 (100 + s72))) rfl rfl (by decide) (q_add rfl rfl) ?_
                    refine call_dst rfl (by decide) body12 (keelsonalike_Fill_s _ _ _ h) rfl ?_
                    rintro _ H83 ⟨y84, rfl, h⟩
                    obtain ⟨a85, ha86, h⟩ := h
                    refine GoOps.q (v := .pointer (some a85)) rfl rfl (by decide) (q_idxA array40 ha86 e74_10 rfl) ?_
                    obtain ⟨q88b, q88o, q88c, q88e, hq88a, hq88b, hq88l, hq88v, h⟩ := h
                    refine op_none rfl rfl (do_store (vs := [Sl.v y84]) size28 (pta rfl hq88a) rfl rfl rfl hq88v hq88b hq88l ?_) 
                    refine GoOps.nil ?_
                    refine Go.seq ?_
                    refine Go.draw mixed ?_
                    refine plan_pure (i := 0) (d := 97) (S2 := 1) (v := .int .i64 y82) rfl (by decide +kernel) rfl (q_move rfl) ?_
                    refine plan_pure (i := 1) (d := 98) (S2 := 3) (v := .int .i64 y82) rfl (by decide +kernel) rfl (q_move rfl) ?_
                    obtain ⟨a89, ha90, h⟩ := h
                    refine plan_pure (i := 2) (d := 99) (S2 := 7) (v := .pointer (some a89)) rfl (by decide +kernel) rfl (q_idxA array42 ha90 e74_14 rfl) ?_
                    obtain ⟨x91, hx92, h⟩ := h
                    refine plan_load (i := 3) (d := 100) (S2 := 15) (v := Sl.v x91) rfl (by decide +kernel) rfl (q_load scalar41 rfl hx92) ?_
                    refine plan_pure (i := 4) (d := 101) (S2 := 31) (v := .int .i64 y82) rfl (by decide +kernel) rfl (q_move rfl) ?_
                    obtain ⟨a93, ha94, h⟩ := h
                    refine plan_pure (i := 5) (d := 102) (S2 := 63) (v := .pointer (some a93)) rfl (by decide +kernel) rfl (q_idxA array40 ha94 e74_10 rfl) ?_
                    obtain ⟨x95, hx96, h⟩ := h
                    refine plan_load (i := 6) (d := 103) (S2 := 127) (v := Sl.v x95) rfl (by decide +kernel) rfl (q_load scalar28 rfl hx96) ?_
                    refine plan_one (j := 7) (S2 := 255) (by decide +kernel) rfl (by decide) rfl ?_
                    refine do_bs (ps := [(0, Sl.v x95)]) (zs := [.slice none 0 0]) (cs := [Sl.v x95]) slice41 zero28 rfl rfl (by decide) (by decide) rfl rfl fun r97 H98 hb99 => ?_
                    have h := h r97 H98 hb99
                    obtain ⟨hr100, h⟩ := h
                    refine ⟨_, (.inl ⟨⟨[7], by decide +kernel, rfl⟩, .inr ⟨⟨_, _, rfl, rfl, q_load scalar41 rfl hr100⟩, _, rfl, rfl⟩⟩), ?_⟩
                    refine plan_one (j := 8) (S2 := 511) (by decide +kernel) rfl (by decide) rfl ?_
                    refine do_append (zs := [.slice none 0 0]) slice41 bytes28 (by decide) zero28 rfl rfl (by decide) rfl rfl Try.underlying41 rfl h fun r101 H102 h => ?_
                    refine ⟨_, (.inl ⟨⟨[8], by decide +kernel, rfl⟩, rfl⟩), ?_⟩
                    obtain ⟨a103, ha104, h⟩ := h
                    refine plan_pure (i := 9) (d := 106) (S2 := 1023) (v := .pointer (some a103)) rfl (by decide +kernel) rfl (q_idxA array42 ha104 e74_14 rfl) ?_
                    refine plan_one (j := 10) (S2 := 2047) (by decide +kernel) rfl (by decide) rfl ?_
                    obtain ⟨q106b, q106o, q106c, q106e, hq106a, hq106b, hq106l, hq106v, h⟩ := h
                    refine do_store (vs := [Sl.v r101]) size41 (pta rfl hq106a) rfl rfl rfl hq106v hq106b hq106l ?_
                    refine ⟨_, rfl, ?_⟩
                    refine plan_done (by decide +kernel) ?_
                    refine Go.seq ?_
                    refine Go.region rfl ?_
                    refine GoOps.q (v := .pointer y15) rfl rfl (by decide) (q_move e74_7) ?_
                    refine GoOps.q (v := .int .i64 y82) rfl rfl (by decide) (q_move rfl) ?_
                    refine GoOps.q (v := .int .i64 y82) rfl rfl (by decide) (q_move rfl) ?_
                    obtain ⟨a107, ha108, h⟩ := h
                    refine GoOps.q (v := .pointer (some a107)) rfl rfl (by decide) (q_idxA array40 ha108 e74_10 rfl) ?_
                    obtain ⟨x109, hx110, h⟩ := h
                    refine GoOps.q (v := Sl.v x109) rfl rfl (by decide) (q_load scalar28 rfl hx110) ?_
                    refine call_dst rfl (by decide) body11 (vdisk_Disk_Write_s _ _ _ _ _ h) rfl ?_
                    rintro _ H111 ⟨y112, rfl, h⟩
                    refine GoOps.q (v := .bool (y112 != 0)) rfl rfl (by decide) (q_neq rfl rfl) ?_
                    refine GoOps.nil ?_
                    rcases bor (y112 != 0) with hc113 | hc113
                    · have h := h.1 hc113
                      refine Go.condT (btT rfl hc113) ?_
                      refine Go.seq ?_
                      refine Go.region rfl ?_
                      refine GoOps.q (v := .bool false) rfl rfl (by decide) (q_assign rfl) ?_
                      refine GoOps.nil ?_
                      exact Go.ret ⟨.inl rfl, _, _, DOk.nil, (resOk1 Try.results5 rfl), ⟨_, rfl, h⟩⟩
                    · have h := h.2 hc113
                      refine Go.condF (btF rfl hc113) ?_
                      refine Go.skip ?_
                      refine Go.inBlock ?_
                      refine Go.region rfl ?_
                      refine GoOps.q (v := .int .i64 s72) rfl rfl (by decide) (q_move e74_15) ?_
                      refine GoOps.q (v := .int .i64 (IntKind.wrap .i64 (s72 + 1))) rfl rfl (by decide) (q_add rfl rfl) ?_
                      refine GoOps.q (v := .int .i64 (IntKind.wrap .i64 (s72 + 1))) rfl rfl (by decide) (q_assign rfl) ?_
                      refine GoOps.nil ?_
                      exact hagain73 _ _ _ h ⟨e74_1, e74_2, e74_7, e74_9, e74_10, e74_14, rfl⟩
                  · have h := h.2 hc76
                    refine Go.condF (btF rfl hc76) ?_
                    refine Go.exit rfl ?_
                    refine Go.seq ?_
                    refine Go.region rfl ?_
                    refine GoOps.q (v := .pointer y15) rfl rfl (by decide) (q_move e74_7) ?_
                    refine GoOps.q (v := Sl.v p2) rfl rfl (by decide) (q_move e74_2) ?_
                    refine call_dst rfl (by decide) body16 (vdisk_Disk_Crash_s _ _ _ _ h) rfl ?_
                    rintro _ H114 ⟨y115, rfl, h⟩
                    refine GoOps.q (v := .pointer y115) rfl rfl (by decide) (q_assign rfl) ?_
                    refine GoOps.nil ?_
                    refine Go.seq ?_
                    refine Go.seq ?_
                    refine Go.region rfl ?_
                    refine GoOps.q (v := .pointer y115) rfl rfl (by decide) (q_move rfl) ?_
                    refine GoOps.q (v := .bool (Option.isNone y115)) rfl rfl (by decide) (q_eqlPn Try.underlying23 rfl rfl) ?_
                    refine GoOps.q (v := .bool (Option.isNone y115)) rfl rfl (by decide) (q_move rfl) ?_
                    refine join_ops 4 (fun ρ (s117 : Bool) => ρ 9 = .pointer (some a23) ∧ ρ 14 = .pointer (some a69) ∧ ρ 17 = .pointer y115 ∧ ρ 123 = .bool s117) h ?_ ?_ <;> clear h
                    · intro s117 H119 ρ h hE
                      obtain ⟨e120_9, e120_14, e120_17, e120_123⟩ := hE
                      refine GoOps.q (v := .bool s117) rfl rfl (by decide) (q_move e120_123) ?_
                      refine join_ops 4 (fun ρ (s122 : Bool) => ρ 9 = .pointer (some a23) ∧ ρ 14 = .pointer (some a69) ∧ ρ 17 = .pointer y115 ∧ ρ 128 = .bool s122) h ?_ ?_ <;> clear h
                      · intro s122 H124 ρ h hE
                        obtain ⟨e125_9, e125_14, e125_17, e125_128⟩ := hE
                        refine GoOps.q (v := .bool s122) rfl rfl (by decide) (q_move e125_128) ?_
                        refine join_ops 3 (fun ρ (s127 : Bool) => ρ 9 = .pointer (some a23) ∧ ρ 14 = .pointer (some a69) ∧ ρ 17 = .pointer y115 ∧ ρ 132 = .bool s127) h ?_ ?_ <;> clear h
                        · intro s127 H129 ρ h hE
                          obtain ⟨e130_9, e130_14, e130_17, e130_132⟩ := hE
                          refine GoOps.nil ?_
                          rcases bor s127 with hc131 | hc131
                          · have h := h.1 hc131
                            refine Go.condT (btT e130_132 hc131) ?_
                            refine Go.seq ?_
                            refine Go.region rfl ?_
                            refine GoOps.q (v := .bool false) rfl rfl (by decide) (q_assign rfl) ?_
                            refine GoOps.nil ?_
                            exact Go.ret ⟨.inl rfl, _, _, DOk.nil, (resOk1 Try.results5 rfl), ⟨_, rfl, h⟩⟩
                          · have h := h.2 hc131
                            refine Go.condF (btF e130_132 hc131) ?_
                            refine Go.skip ?_
                            refine Go.seq ?_
                            refine Go.seq ?_
                            refine Go.region rfl ?_
                            refine GoOps.q (v := .int .i64 0) rfl rfl (by decide) (q_assign rfl) ?_
                            refine GoOps.nil ?_
                            refine Go.block ?_
                            refine loop_go (fun ρ (s132 : Int) => ρ 9 = .pointer (some a23) ∧ ρ 14 = .pointer (some a69) ∧ ρ 17 = .pointer y115 ∧ ρ 18 = .int .i64 s132) h ⟨e130_9, e130_14, e130_17, rfl⟩ ?_
                            clear h
                            intro ρ s132 H135 again133 hE h hagain133
                            obtain ⟨e134_9, e134_14, e134_17, e134_18⟩ := hE
                            refine Go.seq ?_
                            refine Go.seq ?_
                            refine Go.region rfl ?_
                            refine GoOps.q (v := .int .i64 s132) rfl rfl (by decide) (q_move e134_18) ?_
                            refine GoOps.q (v := .bool (decide (s132 < 8))) rfl rfl (by decide) (q_lss rfl rfl) ?_
                            refine GoOps.nil ?_
                            rcases bor (decide (s132 < 8)) with hc136 | hc136
                            · have h := h.1 hc136
                              refine Go.condT (btT rfl hc136) ?_
                              refine Go.skip ?_
                              refine Go.seq ?_
                              refine Go.block ?_
                              refine Go.seq ?_
                              refine Go.region rfl ?_
                              refine GoOps.q (v := .pointer y115) rfl rfl (by decide) (q_move e134_17) ?_
                              refine GoOps.q (v := .int .i64 s132) rfl rfl (by decide) (q_move e134_18) ?_
                              refine call_dst rfl (by decide) body14 (vdisk_Disk_Read_s _ _ _ _ h) rfl ?_
                              rintro _ H137 ⟨y138, y139, rfl, h⟩
                              refine GoOps.q (v := .tuple #[Sl.v y138, .int .i64 y139]) rfl rfl (by decide) (q_move rfl) ?_
                              refine GoOps.q (v := Sl.v y138) rfl rfl (by decide) (q_extract rfl rfl) ?_
                              refine GoOps.q (v := .int .i64 y139) rfl rfl (by decide) (q_extract rfl rfl) ?_
                              refine GoOps.q (v := Sl.v y138) rfl rfl (by decide) (q_assign rfl) ?_
                              refine GoOps.q (v := .int .i64 y139) rfl rfl (by decide) (q_assign rfl) ?_
                              refine GoOps.nil ?_
                              refine Go.seq ?_
                              refine Go.seq ?_
                              refine Go.region rfl ?_
                              refine GoOps.q (v := .int .i64 y139) rfl rfl (by decide) (q_move rfl) ?_
                              refine GoOps.q (v := .bool (y139 != 0)) rfl rfl (by decide) (q_neq rfl rfl) ?_
                              refine GoOps.q (v := .bool (y139 != 0)) rfl rfl (by decide) (q_move rfl) ?_
                              refine join_ops 4 (fun ρ (s141 : Bool) => ρ 9 = .pointer (some a23) ∧ ρ 14 = .pointer (some a69) ∧ ρ 17 = .pointer y115 ∧ ρ 18 = .int .i64 s132 ∧ ρ 19 = Sl.v y138 ∧ ρ 149 = .bool s141) h ?_ ?_ <;> clear h
                              · intro s141 H143 ρ h hE
                                obtain ⟨e144_9, e144_14, e144_17, e144_18, e144_19, e144_149⟩ := hE
                                refine GoOps.nil ?_
                                rcases bor s141 with hc145 | hc145
                                · have h := h.1 hc145
                                  refine Go.condT (btT e144_149 hc145) ?_
                                  refine Go.seq ?_
                                  refine Go.region rfl ?_
                                  refine GoOps.q (v := .bool false) rfl rfl (by decide) (q_assign rfl) ?_
                                  refine GoOps.nil ?_
                                  exact Go.ret ⟨.inl rfl, _, _, DOk.nil, (resOk1 Try.results5 rfl), ⟨_, rfl, h⟩⟩
                                · have h := h.2 hc145
                                  refine Go.condF (btF e144_149 hc145) ?_
                                  refine Go.skip ?_
                                  refine Go.seq ?_
                                  refine Go.region rfl ?_
                                  refine GoOps.q (v := .int .i64 0) rfl rfl (by decide) (q_assign rfl) ?_
                                  refine GoOps.nil ?_
                                  refine Go.block ?_
                                  refine loop_go (fun ρ (s146 : Int) => ρ 9 = .pointer (some a23) ∧ ρ 14 = .pointer (some a69) ∧ ρ 17 = .pointer y115 ∧ ρ 18 = .int .i64 s132 ∧ ρ 19 = Sl.v y138 ∧ ρ 21 = .int .i64 s146) h ⟨e144_9, e144_14, e144_17, e144_18, e144_19, rfl⟩ ?_
                                  clear h
                                  intro ρ s146 H149 again147 hE h hagain147
                                  obtain ⟨e148_9, e148_14, e148_17, e148_18, e148_19, e148_21⟩ := hE
                                  refine Go.seq ?_
                                  refine Go.seq ?_
                                  refine Go.region rfl ?_
                                  refine GoOps.q (v := .int .i64 s146) rfl rfl (by decide) (q_move e148_21) ?_
                                  refine GoOps.q (v := .bool (decide (s146 < 64))) rfl rfl (by decide) (q_lss rfl rfl) ?_
                                  refine GoOps.nil ?_
                                  rcases bor (decide (s146 < 64)) with hc150 | hc150
                                  · have h := h.1 hc150
                                    refine Go.condT (btT rfl hc150) ?_
                                    refine Go.skip ?_
                                    refine Go.seq ?_
                                    refine Go.block ?_
                                    refine Go.seq ?_
                                    refine Go.draw mixed ?_
                                    refine plan_pure (i := 0) (d := 154) (S2 := 1) (v := Sl.v y138) rfl (by decide +kernel) rfl (q_move e148_19) ?_
                                    refine plan_pure (i := 1) (d := 155) (S2 := 3) (v := .int .i64 s146) rfl (by decide +kernel) rfl (q_move e148_21) ?_
                                    obtain ⟨a151, ha152, h⟩ := h
                                    refine plan_pure (i := 2) (d := 156) (S2 := 7) (v := .pointer (some a151)) rfl (by decide +kernel) rfl (q_idx slice28 ha152 rfl rfl) ?_
                                    obtain ⟨x153, hx154, h⟩ := h
                                    refine plan_load (i := 3) (d := 157) (S2 := 15) (v := .int .u8 x153) rfl (by decide +kernel) rfl (q_load scalar5 rfl hx154) ?_
                                    refine plan_pure (i := 4) (d := 158) (S2 := 31) (v := .int .i64 s132) rfl (by decide +kernel) rfl (q_move e148_18) ?_
                                    obtain ⟨a155, ha156, h⟩ := h
                                    refine plan_pure (i := 5) (d := 159) (S2 := 63) (v := .pointer (some a155)) rfl (by decide +kernel) rfl (q_idxA array40 ha156 e148_9 rfl) ?_
                                    obtain ⟨x157, hx158, h⟩ := h
                                    refine plan_load (i := 6) (d := 160) (S2 := 127) (v := Sl.v x157) rfl (by decide +kernel) rfl (q_load scalar28 rfl hx158) ?_
                                    refine plan_pure (i := 7) (d := 161) (S2 := 255) (v := .int .i64 s146) rfl (by decide +kernel) rfl (q_move e148_21) ?_
                                    obtain ⟨a159, ha160, h⟩ := h
                                    refine plan_pure (i := 8) (d := 162) (S2 := 511) (v := .pointer (some a159)) rfl (by decide +kernel) rfl (q_idx slice28 ha160 rfl rfl) ?_
                                    obtain ⟨x161, hx162, h⟩ := h
                                    refine plan_load (i := 9) (d := 163) (S2 := 1023) (v := .int .u8 x161) rfl (by decide +kernel) rfl (q_load scalar5 rfl hx162) ?_
                                    refine plan_pure (i := 10) (d := 164) (S2 := 2047) (v := .bool (x153 == x161)) rfl (by decide +kernel) rfl (q_eql rfl rfl) ?_
                                    refine plan_pure (i := 11) (d := 22) (S2 := 4095) (v := .bool (x153 == x161)) rfl (by decide +kernel) rfl (q_assign rfl) ?_
                                    refine plan_done (by decide +kernel) ?_
                                    refine Go.seq ?_
                                    refine Go.seq ?_
                                    refine Go.region rfl ?_
                                    refine GoOps.q (v := .int .i64 0) rfl rfl (by decide) (q_assign rfl) ?_
                                    refine GoOps.nil ?_
                                    refine Go.block ?_
                                    refine loop_go (fun ρ (s163 : Bool × Int) => ρ 9 = .pointer (some a23) ∧ ρ 14 = .pointer (some a69) ∧ ρ 17 = .pointer y115 ∧ ρ 18 = .int .i64 s132 ∧ ρ 19 = Sl.v y138 ∧ ρ 21 = .int .i64 s146 ∧ ρ 22 = .bool s163.1 ∧ ρ 23 = .int .i64 s163.2) h ⟨e148_9, e148_14, e148_17, e148_18, e148_19, e148_21, rfl, rfl⟩ ?_
                                    clear h
                                    intro ρ s163 H166 again164 hE h hagain164
                                    obtain ⟨e165_9, e165_14, e165_17, e165_18, e165_19, e165_21, e165_22, e165_23⟩ := hE
                                    refine Go.seq ?_
                                    refine Go.seq ?_
                                    refine Go.region rfl ?_
                                    refine GoOps.q (v := .int .i64 s163.2) rfl rfl (by decide) (q_move e165_23) ?_
                                    refine GoOps.q (v := .int .i64 s132) rfl rfl (by decide) (q_move e165_18) ?_
                                    obtain ⟨a167, ha168, h⟩ := h
                                    refine GoOps.q (v := .pointer (some a167)) rfl rfl (by decide) (q_idxA array42 ha168 e165_14 rfl) ?_
                                    obtain ⟨x169, hx170, h⟩ := h
                                    refine GoOps.q (v := Sl.v x169) rfl rfl (by decide) (q_load scalar41 rfl hx170) ?_
                                    refine GoOps.q (v := .int .i64 (x169.len : Int)) rfl rfl (by decide) (q_len Try.underlying41 rfl (ls1 rfl)) ?_
                                    refine GoOps.q (v := .bool (decide (s163.2 < (x169.len : Int)))) rfl rfl (by decide) (q_lss rfl rfl) ?_
                                    refine GoOps.nil ?_
                                    rcases bor (decide (s163.2 < (x169.len : Int))) with hc171 | hc171
                                    · have h := h.1 hc171
                                      refine Go.condT (btT rfl hc171) ?_
                                      refine Go.skip ?_
                                      refine Go.seq ?_
                                      refine Go.block ?_
                                      refine Go.draw mixed ?_
                                      refine plan_pure (i := 0) (d := 173) (S2 := 1) (v := .bool s163.1) rfl (by decide +kernel) rfl (q_move e165_22) ?_
                                      refine plan_pure (i := 1) (d := 174) (S2 := 3) (v := .bool s163.1) rfl (by decide +kernel) rfl (q_move rfl) ?_
                                      refine join_plan 131071 [14, 11, 8, 5] (fun ρ (s173 : Bool) => ρ 9 = .pointer (some a23) ∧ ρ 14 = .pointer (some a69) ∧ ρ 17 = .pointer y115 ∧ ρ 18 = .int .i64 s132 ∧ ρ 19 = Sl.v y138 ∧ ρ 21 = .int .i64 s146 ∧ ρ 22 = .bool s163.1 ∧ ρ 23 = .int .i64 s163.2 ∧ ρ 189 = .bool s173) h ?_ ?_ <;> clear h
                                      · intro s173 H175 ρ h hE
                                        obtain ⟨e176_9, e176_14, e176_17, e176_18, e176_19, e176_21, e176_22, e176_23, e176_189⟩ := hE
                                        refine plan_one (j := 17) (S2 := 262143) (by decide +kernel) rfl (by decide) rfl ?_
                                        refine OpQ.do (v := .bool s173) (q_assign e176_189) ⟨_, (.inl ⟨⟨[17], by decide +kernel, rfl⟩, .inl ⟨⟨[17], by decide +kernel, rfl⟩, .inl ⟨⟨[17], by decide +kernel, rfl⟩, .inl ⟨⟨[17], by decide +kernel, rfl⟩, rfl⟩⟩⟩⟩), ?_⟩
                                        refine plan_done (by decide +kernel) ?_
                                        refine Go.inBlock ?_
                                        refine Go.region rfl ?_
                                        refine GoOps.q (v := .int .i64 s163.2) rfl rfl (by decide) (q_move e176_23) ?_
                                        refine GoOps.q (v := .int .i64 (IntKind.wrap .i64 (s163.2 + 1))) rfl rfl (by decide) (q_add rfl rfl) ?_
                                        refine GoOps.q (v := .int .i64 (IntKind.wrap .i64 (s163.2 + 1))) rfl rfl (by decide) (q_assign rfl) ?_
                                        refine GoOps.nil ?_
                                        exact hagain164 _ _ _ h ⟨e176_9, e176_14, e176_17, e176_18, e176_19, e176_21, rfl, rfl⟩
                                      · intro j174 hj174 h
                                        rcases bor s163.1 with hc172 | hc172
                                        · have h := h.1 hc172
                                          refine plan_skip (i := 2) (d := 175) (S2 := 7) rfl (by decide +kernel) (want_no rfl rfl rfl hc172) ?_
                                          refine plan_skip (i := 3) (d := 176) (S2 := 15) rfl (by decide +kernel) (want_no rfl rfl rfl hc172) ?_
                                          refine plan_skip (i := 4) (d := 177) (S2 := 31) rfl (by decide +kernel) (want_no rfl rfl rfl hc172) ?_
                                          refine plan_skip (i := 5) (d := 178) (S2 := 63) rfl (by decide +kernel) (want_no rfl rfl rfl hc172) ?_
                                          refine plan_skip (i := 6) (d := 179) (S2 := 127) rfl (by decide +kernel) (want_no rfl rfl rfl hc172) ?_
                                          refine plan_skip (i := 7) (d := 180) (S2 := 255) rfl (by decide +kernel) (want_no rfl rfl rfl hc172) ?_
                                          refine plan_skip (i := 8) (d := 181) (S2 := 511) rfl (by decide +kernel) (want_no rfl rfl rfl hc172) ?_
                                          refine plan_skip (i := 9) (d := 182) (S2 := 1023) rfl (by decide +kernel) (want_no rfl rfl rfl hc172) ?_
                                          refine plan_skip (i := 10) (d := 183) (S2 := 2047) rfl (by decide +kernel) (want_no rfl rfl rfl hc172) ?_
                                          refine plan_skip (i := 11) (d := 184) (S2 := 4095) rfl (by decide +kernel) (want_no rfl rfl rfl hc172) ?_
                                          refine plan_skip (i := 12) (d := 185) (S2 := 8191) rfl (by decide +kernel) (want_no rfl rfl rfl hc172) ?_
                                          refine plan_skip (i := 13) (d := 186) (S2 := 16383) rfl (by decide +kernel) (want_no rfl rfl rfl hc172) ?_
                                          refine plan_skip (i := 14) (d := 187) (S2 := 32767) rfl (by decide +kernel) (want_no rfl rfl rfl hc172) ?_
                                          refine plan_skip (i := 15) (d := 188) (S2 := 65535) rfl (by decide +kernel) (want_no rfl rfl rfl hc172) ?_
                                          refine plan_pure (i := 16) (d := 189) (S2 := 131071) (v := .bool true) rfl (by decide +kernel) rfl (q_pickT (btT rfl hc172) rfl) ?_
                                          refine plan_weaken (L2 := [14, 11, 8, 5]) (by decide) ?_
                                          exact hj174 _ _ _ h ⟨e165_9, e165_14, e165_17, e165_18, e165_19, e165_21, e165_22, e165_23, rfl⟩
                                        · have h := h.2 hc172
                                          refine plan_pure (i := 2) (d := 175) (S2 := 7) (v := Sl.v y138) rfl (by decide +kernel) (want_yes rfl rfl rfl hc172) (q_move e165_19) ?_
                                          refine plan_pure (i := 3) (d := 176) (S2 := 15) (v := .int .i64 s146) rfl (by decide +kernel) (want_yes rfl rfl rfl hc172) (q_move e165_21) ?_
                                          obtain ⟨a177, ha178, h⟩ := h
                                          refine plan_pure (i := 4) (d := 177) (S2 := 31) (v := .pointer (some a177)) rfl (by decide +kernel) (want_yes rfl rfl rfl hc172) (q_idx slice28 ha178 rfl rfl) ?_
                                          obtain ⟨x179, hx180, h⟩ := h
                                          refine plan_load (i := 5) (d := 178) (S2 := 63) (v := .int .u8 x179) rfl (by decide +kernel) (want_yes rfl rfl rfl hc172) (q_load scalar5 rfl hx180) ?_
                                          refine plan_pure (i := 6) (d := 179) (S2 := 127) (v := .int .i64 s132) rfl (by decide +kernel) (want_yes rfl rfl rfl hc172) (q_move e165_18) ?_
                                          obtain ⟨a181, ha182, h⟩ := h
                                          refine plan_pure (i := 7) (d := 180) (S2 := 255) (v := .pointer (some a181)) rfl (by decide +kernel) (want_yes rfl rfl rfl hc172) (q_idxA array42 ha182 e165_14 rfl) ?_
                                          obtain ⟨x183, hx184, h⟩ := h
                                          refine plan_load (i := 8) (d := 181) (S2 := 511) (v := Sl.v x183) rfl (by decide +kernel) (want_yes rfl rfl rfl hc172) (q_load scalar41 rfl hx184) ?_
                                          refine plan_pure (i := 9) (d := 182) (S2 := 1023) (v := .int .i64 s163.2) rfl (by decide +kernel) (want_yes rfl rfl rfl hc172) (q_move e165_23) ?_
                                          obtain ⟨a185, ha186, h⟩ := h
                                          refine plan_pure (i := 10) (d := 183) (S2 := 2047) (v := .pointer (some a185)) rfl (by decide +kernel) (want_yes rfl rfl rfl hc172) (q_idx slice41 ha186 rfl rfl) ?_
                                          obtain ⟨x187, hx188, h⟩ := h
                                          refine plan_load (i := 11) (d := 184) (S2 := 4095) (v := Sl.v x187) rfl (by decide +kernel) (want_yes rfl rfl rfl hc172) (q_load scalar28 rfl hx188) ?_
                                          refine plan_pure (i := 12) (d := 185) (S2 := 8191) (v := .int .i64 s146) rfl (by decide +kernel) (want_yes rfl rfl rfl hc172) (q_move e165_21) ?_
                                          obtain ⟨a189, ha190, h⟩ := h
                                          refine plan_pure (i := 13) (d := 186) (S2 := 16383) (v := .pointer (some a189)) rfl (by decide +kernel) (want_yes rfl rfl rfl hc172) (q_idx slice28 ha190 rfl rfl) ?_
                                          obtain ⟨x191, hx192, h⟩ := h
                                          refine plan_load (i := 14) (d := 187) (S2 := 32767) (v := .int .u8 x191) rfl (by decide +kernel) (want_yes rfl rfl rfl hc172) (q_load scalar5 rfl hx192) ?_
                                          refine plan_pure (i := 15) (d := 188) (S2 := 65535) (v := .bool (x179 == x191)) rfl (by decide +kernel) (want_yes rfl rfl rfl hc172) (q_eql rfl rfl) ?_
                                          refine plan_pure (i := 16) (d := 189) (S2 := 131071) (v := .bool (x179 == x191)) rfl (by decide +kernel) rfl (q_pickF (btF rfl hc172) rfl) ?_
                                          exact hj174 _ _ _ h ⟨e165_9, e165_14, e165_17, e165_18, e165_19, e165_21, e165_22, e165_23, rfl⟩
                                    · have h := h.2 hc171
                                      refine Go.condF (btF rfl hc171) ?_
                                      refine Go.exit rfl ?_
                                      refine Go.seq ?_
                                      refine Go.region rfl ?_
                                      refine GoOps.q (v := .bool s163.1) rfl rfl (by decide) (q_move e165_22) ?_
                                      refine GoOps.q (v := .bool (!s163.1)) rfl rfl (by decide) (q_not rfl) ?_
                                      refine GoOps.nil ?_
                                      rcases bor (!s163.1) with hc193 | hc193
                                      · have h := h.1 hc193
                                        refine Go.condT (btT rfl hc193) ?_
                                        refine Go.seq ?_
                                        refine Go.region rfl ?_
                                        refine GoOps.q (v := .bool false) rfl rfl (by decide) (q_assign rfl) ?_
                                        refine GoOps.nil ?_
                                        exact Go.ret ⟨.inl rfl, _, _, DOk.nil, (resOk1 Try.results5 rfl), ⟨_, rfl, h⟩⟩
                                      · have h := h.2 hc193
                                        refine Go.condF (btF rfl hc193) ?_
                                        refine Go.skip ?_
                                        refine Go.inBlock ?_
                                        refine Go.region rfl ?_
                                        refine GoOps.q (v := .int .i64 s146) rfl rfl (by decide) (q_move e165_21) ?_
                                        refine GoOps.q (v := .int .i64 (IntKind.wrap .i64 (s146 + 1))) rfl rfl (by decide) (q_add rfl rfl) ?_
                                        refine GoOps.q (v := .int .i64 (IntKind.wrap .i64 (s146 + 1))) rfl rfl (by decide) (q_assign rfl) ?_
                                        refine GoOps.nil ?_
                                        exact hagain147 _ _ _ h ⟨e165_9, e165_14, e165_17, e165_18, e165_19, rfl⟩
                                  · have h := h.2 hc150
                                    refine Go.condF (btF rfl hc150) ?_
                                    refine Go.exit rfl ?_
                                    refine Go.inBlock ?_
                                    refine Go.region rfl ?_
                                    refine GoOps.q (v := .int .i64 s132) rfl rfl (by decide) (q_move e148_18) ?_
                                    refine GoOps.q (v := .int .i64 (IntKind.wrap .i64 (s132 + 1))) rfl rfl (by decide) (q_add rfl rfl) ?_
                                    refine GoOps.q (v := .int .i64 (IntKind.wrap .i64 (s132 + 1))) rfl rfl (by decide) (q_assign rfl) ?_
                                    refine GoOps.nil ?_
                                    exact hagain133 _ _ _ h ⟨e148_9, e148_14, e148_17, rfl⟩
                              · intro j142 hj142 h
                                rcases bor (y139 != 0) with hc140 | hc140
                                · have h := h.1 hc140
                                  refine no_dst (want_no rfl rfl rfl hc140) rfl (by decide) ?_
                                  refine no_dst (want_no rfl rfl rfl hc140) rfl (by decide) ?_
                                  refine no_dst (want_no rfl rfl rfl hc140) rfl (by decide) ?_
                                  refine GoOps.q (v := .bool true) rfl rfl (by decide) (q_pickT (btT rfl hc140) rfl) ?_
                                  exact hj142 true _ _ h (by exact ⟨e134_9, e134_14, e134_17, e134_18, rfl, rfl⟩)
                                · have h := h.2 hc140
                                  refine GoOps.q (v := Sl.v y138) (want_yes rfl rfl rfl hc140) rfl (by decide) (q_move rfl) ?_
                                  refine GoOps.q (v := .int .i64 (y138.len : Int)) (want_yes rfl rfl rfl hc140) rfl (by decide) (q_len Try.underlying28 rfl (ls1 rfl)) ?_
                                  refine GoOps.q (v := .bool ((y138.len : Int) != 64)) (want_yes rfl rfl rfl hc140) rfl (by decide) (q_neq rfl rfl) ?_
                                  refine GoOps.q (v := .bool ((y138.len : Int) != 64)) rfl rfl (by decide) (q_pickF (btF rfl hc140) rfl) ?_
                                  exact hj142 ((y138.len : Int) != 64) _ _ h (by exact ⟨e134_9, e134_14, e134_17, e134_18, rfl, rfl⟩)
                            · have h := h.2 hc136
                              refine Go.condF (btF rfl hc136) ?_
                              refine Go.exit rfl ?_
                              refine Go.seq ?_
                              refine Go.region rfl ?_
                              refine call_dst rfl (by decide) body17 (keelsonlaw3_awake_s _ _ h) rfl ?_
                              rintro _ H194 ⟨y195, rfl, h⟩
                              refine GoOps.q (v := .bool y195) rfl rfl (by decide) (q_assign rfl) ?_
                              refine GoOps.nil ?_
                              exact Go.ret ⟨.inl rfl, _, _, DOk.nil, (resOk1 Try.results5 rfl), ⟨_, rfl, h⟩⟩
                        · intro j128 hj128 h
                          rcases bor s122 with hc126 | hc126
                          · have h := h.1 hc126
                            refine no_dst (want_no rfl rfl rfl hc126) rfl (by decide) ?_
                            refine no_dst (want_no rfl rfl rfl hc126) rfl (by decide) ?_
                            refine GoOps.q (v := .bool true) rfl rfl (by decide) (q_pickT (btT rfl hc126) rfl) ?_
                            exact hj128 true _ _ h (by exact ⟨e125_9, e125_14, e125_17, rfl⟩)
                          · have h := h.2 hc126
                            refine GoOps.q (v := .pointer y115) (want_yes rfl rfl rfl hc126) rfl (by decide) (q_move e125_17) ?_
                            refine call_dst (want_yes rfl rfl rfl hc126) (by decide) body21 (vdisk_Disk_Off_s _ _ _ h) rfl ?_
                            rintro _ H196 ⟨y197, rfl, h⟩
                            refine GoOps.q (v := .bool y197) rfl rfl (by decide) (q_pickF (btF rfl hc126) rfl) ?_
                            exact hj128 y197 _ _ h (by exact ⟨e125_9, e125_14, e125_17, rfl⟩)
                      · intro j123 hj123 h
                        rcases bor s117 with hc121 | hc121
                        · have h := h.1 hc121
                          refine no_dst (want_no rfl rfl rfl hc121) rfl (by decide) ?_
                          refine no_dst (want_no rfl rfl rfl hc121) rfl (by decide) ?_
                          refine no_dst (want_no rfl rfl rfl hc121) rfl (by decide) ?_
                          refine GoOps.q (v := .bool true) rfl rfl (by decide) (q_pickT (btT rfl hc121) rfl) ?_
                          exact hj123 true _ _ h (by exact ⟨e120_9, e120_14, e120_17, rfl⟩)
                        · have h := h.2 hc121
                          refine GoOps.q (v := .pointer y115) (want_yes rfl rfl rfl hc121) rfl (by decide) (q_move e120_17) ?_
                          refine call_dst (want_yes rfl rfl rfl hc121) (by decide) body20 (vdisk_Disk_Acts_s _ _ _ h) rfl ?_
                          rintro _ H198 ⟨y199, rfl, h⟩
                          refine GoOps.q (v := .bool (y199 != 0)) (want_yes rfl rfl rfl hc121) rfl (by decide) (q_neq rfl rfl) ?_
                          refine GoOps.q (v := .bool (y199 != 0)) rfl rfl (by decide) (q_pickF (btF rfl hc121) rfl) ?_
                          exact hj123 (y199 != 0) _ _ h (by exact ⟨e120_9, e120_14, e120_17, rfl⟩)
                    · intro j118 hj118 h
                      rcases bor (Option.isNone y115) with hc116 | hc116
                      · have h := h.1 hc116
                        refine no_dst (want_no rfl rfl rfl hc116) rfl (by decide) ?_
                        refine no_dst (want_no rfl rfl rfl hc116) rfl (by decide) ?_
                        refine no_dst (want_no rfl rfl rfl hc116) rfl (by decide) ?_
                        refine GoOps.q (v := .bool true) rfl rfl (by decide) (q_pickT (btT rfl hc116) rfl) ?_
                        exact hj118 true _ _ h (by exact ⟨e74_9, e74_14, rfl, rfl⟩)
                      · have h := h.2 hc116
                        refine GoOps.q (v := .pointer y115) (want_yes rfl rfl rfl hc116) rfl (by decide) (q_move rfl) ?_
                        refine call_dst (want_yes rfl rfl rfl hc116) (by decide) body19 (vdisk_Disk_Held_s _ _ _ h) rfl ?_
                        rintro _ H200 ⟨y201, rfl, h⟩
                        refine GoOps.q (v := .bool (y201 != 0)) (want_yes rfl rfl rfl hc116) rfl (by decide) (q_neq rfl rfl) ?_
                        refine GoOps.q (v := .bool (y201 != 0)) rfl rfl (by decide) (q_pickF (btF rfl hc116) rfl) ?_
                        exact hj118 (y201 != 0) _ _ h (by exact ⟨e74_9, e74_14, rfl, rfl⟩)
        · intro j19 hj19 h
          rcases bor (y16 != 0) with hc17 | hc17
          · have h := h.1 hc17
            refine no_dst (want_no rfl rfl rfl hc17) rfl (by decide) ?_
            refine no_dst (want_no rfl rfl rfl hc17) rfl (by decide) ?_
            refine GoOps.q (v := .bool true) rfl rfl (by decide) (q_pickT (btT rfl hc17) rfl) ?_
            exact hj19 true _ _ h (by exact ⟨e10_0, e10_1, e10_2, rfl, rfl⟩)
          · have h := h.2 hc17
            refine GoOps.q (v := .pointer y15) (want_yes rfl rfl rfl hc17) rfl (by decide) (q_move rfl) ?_
            refine GoOps.q (v := .bool (Option.isNone y15)) (want_yes rfl rfl rfl hc17) rfl (by decide) (q_eqlPn Try.underlying23 rfl rfl) ?_
            refine GoOps.q (v := .bool (Option.isNone y15)) rfl rfl (by decide) (q_pickF (btF rfl hc17) rfl) ?_
            exact hj19 (Option.isNone y15) _ _ h (by exact ⟨e10_0, e10_1, e10_2, rfl, rfl⟩)
    · intro j8 hj8 h
      rcases bor s2 with hc6 | hc6
      · have h := h.1 hc6
        refine no_dst (want_no rfl rfl rfl hc6) rfl (by decide) ?_
        refine no_dst (want_no rfl rfl rfl hc6) rfl (by decide) ?_
        refine no_dst (want_no rfl rfl rfl hc6) rfl (by decide) ?_
        refine GoOps.q (v := .bool true) rfl rfl (by decide) (q_pickT (btT rfl hc6) rfl) ?_
        exact hj8 true _ _ h (by exact ⟨e5_0, e5_1, e5_2, rfl⟩)
      · have h := h.2 hc6
        refine GoOps.q (v := Sl.v p2) (want_yes rfl rfl rfl hc6) rfl (by decide) (q_move e5_2) ?_
        refine GoOps.q (v := .int .i64 (p2.len : Int)) (want_yes rfl rfl rfl hc6) rfl (by decide) (q_len Try.underlying37 rfl (ls1 rfl)) ?_
        refine GoOps.q (v := .bool (decide (60 < (p2.len : Int)))) (want_yes rfl rfl rfl hc6) rfl (by decide) (q_gtr rfl rfl) ?_
        refine GoOps.q (v := .bool (decide (60 < (p2.len : Int)))) rfl rfl (by decide) (q_pickF (btF rfl hc6) rfl) ?_
        exact hj8 (decide (60 < (p2.len : Int))) _ _ h (by exact ⟨e5_0, e5_1, e5_2, rfl⟩)
  · intro j3 hj3 h
    rcases bor (decide (30 < (p0.len : Int))) with hc1 | hc1
    · have h := h.1 hc1
      refine no_dst (want_no rfl rfl rfl hc1) rfl (by decide) ?_
      refine no_dst (want_no rfl rfl rfl hc1) rfl (by decide) ?_
      refine no_dst (want_no rfl rfl rfl hc1) rfl (by decide) ?_
      refine GoOps.q (v := .bool true) rfl rfl (by decide) (q_pickT (btT rfl hc1) rfl) ?_
      exact hj3 true _ _ h (by exact ⟨rfl, rfl, rfl, rfl⟩)
    · have h := h.2 hc1
      refine GoOps.q (v := Sl.v p1) (want_yes rfl rfl rfl hc1) rfl (by decide) (q_move rfl) ?_
      refine GoOps.q (v := .int .i64 (p1.len : Int)) (want_yes rfl rfl rfl hc1) rfl (by decide) (q_len Try.underlying37 rfl (ls1 rfl)) ?_
      refine GoOps.q (v := .bool (decide (30 < (p1.len : Int)))) (want_yes rfl rfl rfl hc1) rfl (by decide) (q_gtr rfl rfl) ?_
      refine GoOps.q (v := .bool (decide (30 < (p1.len : Int)))) rfl rfl (by decide) (q_pickF (btF rfl hc1) rfl) ?_
      exact hj3 (decide (30 < (p1.len : Int))) _ _ h (by exact ⟨rfl, rfl, rfl, rfl⟩)

/-- (*keelson.vdisk.Disk).Fuse -/
def vdisk_Disk_Fuse (p0 : Option Addr) (p1 : Int) (H : PH) (Q : PH → Prop) : Prop :=
  mIf (!(Option.isNone p0))
  (mNil p0 fun a2 =>
  mSt H (a2.add 4) ([.int .i64 (if p1 < (-1) then (-1) else p1)]) fun H4 =>
  Q H4)
  (Q H)

set_option maxRecDepth 20000 in
set_option maxHeartbeats 1000000 in
theorem vdisk_Disk_Fuse_s (p0 : Option Addr) (p1 : Int) (H : PH) (Q : PH → Prop) (h : vdisk_Disk_Fuse p0 p1 H Q) :
    CallsH Try.prog 22 #[.pointer p0, .int .i64 p1] H (fun v H' => v = .tuple #[] ∧ Q H') := by
  unfold vdisk_Disk_Fuse at h
  refine callsH_of_go Try.func22 rfl Try.ntmps22 (Nat.le_of_ble_eq_true rfl) ?_
  refine Go.seq ?_
  refine Go.region rfl ?_
  refine GoOps.q (v := .pointer p0) rfl rfl (by decide) (q_move rfl) ?_
  refine GoOps.q (v := .bool (!(Option.isNone p0))) rfl rfl (by decide) (q_neqPn Try.underlying23 rfl rfl) ?_
  refine GoOps.nil ?_
  rcases bor (!(Option.isNone p0)) with hc1 | hc1
  · have h := h.1 hc1
    refine Go.condT (btT rfl hc1) ?_
    refine Go.region rfl ?_
    refine GoOps.q (v := .pointer p0) rfl rfl (by decide) (q_move rfl) ?_
    refine GoOps.q (v := .int .i64 p1) rfl rfl (by decide) (q_move rfl) ?_
    refine GoOps.q (v := .int .i64 (if p1 < (-1) then (-1) else p1)) rfl rfl (by decide) (q_max2 rfl) ?_
    obtain ⟨a2, ha3, h⟩ := h
    refine GoOps.q (v := .pointer (some a2)) rfl rfl (by decide) (q_nilCheck (ptn rfl ha3)) ?_
    refine GoOps.q (v := .pointer (some (a2.add 4))) rfl rfl (by decide) (q_fieldAddr foff69_4 rfl) ?_
    obtain ⟨q5b, q5o, q5c, q5e, hq5a, hq5b, hq5l, hq5v, h⟩ := h
    refine op_none rfl rfl (do_store (vs := [.int .i64 (if p1 < (-1) then (-1) else p1)]) size3 (pta rfl hq5a) rfl rfl rfl hq5v hq5b hq5l ?_) 
    refine GoOps.nil ?_
    exact Go.fall ⟨.inr rfl, _, _, DOk.nil, (resOk0 Try.results22), ⟨rfl, h⟩⟩
  · have h := h.2 hc1
    refine Go.condF (btF rfl hc1) ?_
    refine Go.skip ?_
    exact Go.fall ⟨.inr rfl, _, _, DOk.nil, (resOk0 Try.results22), ⟨rfl, h⟩⟩

/-- keelson.keelsonlaw3.DiskFuse -/
def keelsonlaw3_DiskFuse (p0 : Int) (p1 : Sl) (H : PH) (Q : Bool → PH → Prop) : Prop :=
  mJoin (fun (s2 : Bool) (H4 : PH) =>
  mJoin (fun (s7 : Bool) (H9 : PH) =>
  mIf s7
  (keelsonlaw3_awake H9 fun y13 H12 =>
  Q y13 H12)
  (vdisk_New 3 H9 fun y15 y16 H14 =>
  mJoin (fun (s18 : Bool) (H20 : PH) =>
  mIf s18
  (Q false H20)
  (vdisk_Disk_Fuse y15 p0 H20 fun H23 =>
  mLoop (fun (s24 : Int × Int) (H27 : PH) (again25 : (Int × Int) → PH → Prop) =>
  mIf (decide (s24.2 < (p1.len : Int)))
  (mIdx p1 1 s24.2 fun a29 =>
  mLd (.int .i64) H27 a29 fun x31 =>
  mJoin (fun (s33 : Int × Int) (H35 : PH) =>
  mJoin (fun (s38 : Bool) (H40 : PH) =>
  mJoin (fun (s43 : Bool) (H45 : PH) =>
  mJoin (fun (s48 : Bool) (H50 : PH) =>
  mIf s48
  (Q false H50)
  (mJoin (fun (s54 : Bool) (H56 : PH) =>
  mIf s54
  (Q false H56)
  (again25 (s33.1, IntKind.wrap .i64 (s24.2 + 1)) H56))
  fun j55 =>
  mIf (decide (s24.2 < p0))
  (vdisk_Disk_Held y15 H50 fun y60 H59 =>
  j55 (y60 != s33.1) H59)
  (j55 false H50)))
  fun j49 =>
  mIf s43
  (j49 true H45)
  (vdisk_Disk_Acts y15 H45 fun y62 H61 =>
  j49 (y62 != (IntKind.wrap .i64 (s24.2 + 1))) H61))
  fun j44 =>
  mIf s38
  (j44 true H40)
  (vdisk_Disk_Off y15 H40 fun y64 H63 =>
  j44 (y64 != (decide (p0 ≤ s24.2))) H63))
  fun j39 =>
  mIf ((s33.2 == 0) != (decide (s24.2 < p0)))
  (j39 true H35)
  (mJoin (fun (s66 : Bool) (H68 : PH) =>
  j39 s66 H68)
  fun j67 =>
  mIf (s33.2 != 0)
  (j67 (s33.2 != 3) H35)
  (j67 false H35)))
  fun j34 =>
  mIf ((iand .i64 x31 3) == 0)
  (vdisk_Disk_Flush y15 H27 fun y72 H71 =>
  j34 (0, y72) H71)
  (mIdx p1 1 s24.2 fun a73 =>
  mLd (.int .i64) H27 a73 fun x75 =>
  keelsonalike_Fill s24.2 H27 fun y78 H77 =>
  mSame H77 a73 (.int .i64 x75) <|
  vdisk_Disk_Write y15 (iand .i64 x75 1) y78 H77 fun y81 H80 =>
  j34 (IntKind.wrap .i64 (s24.1 + 1), y81) H80))
  (vdisk_Disk_Read y15 0 H27 fun y83 y84 H82 =>
  vdisk_Disk_Crash y15 Sl.nil H82 fun y86 H85 =>
  mIf (Option.isNone y86)
  (Q false H85)
  (vdisk_Disk_Read y86 0 H85 fun y89 y90 H88 =>
  mJoin (fun (s92 : Bool) (H94 : PH) =>
  mJoin (fun (s97 : Bool) (H99 : PH) =>
  mJoin (fun (s102 : Bool) (H104 : PH) =>
  Q s102 H104)
  fun j103 =>
  mIf s97
  (keelsonlaw3_awake H99 fun y107 H106 =>
  j103 y107 H106)
  (j103 false H99))
  fun j98 =>
  mIf s92
  (keelsonalike_Fill 1 H94 fun y109 H108 =>
  vdisk_Disk_Write y86 0 y109 H108 fun y111 H110 =>
  j98 (y111 == 0) H110)
  (j98 false H94))
  fun j93 =>
  mIf ((y84 == 0) == (decide ((p1.len : Int) ≤ p0)))
  (j93 (y90 == 0) H88)
  (j93 false H88))))
  (0, 0) H23))
  fun j19 =>
  mIf (y16 != 0)
  (j19 true H14)
  (j19 (Option.isNone y15) H14)))
  fun j8 =>
  mIf s2
  (j8 true H4)
  (j8 (decide (100 < (p1.len : Int))) H4))
  fun j3 =>
  mIf (decide (p0 < 0))
  (j3 true H)
  (j3 (decide (100 < p0)) H)

set_option maxRecDepth 20000 in
set_option maxHeartbeats 1000000 in
theorem keelsonlaw3_DiskFuse_s (p0 : Int) (p1 : Sl) (H : PH) (Q : Bool → PH → Prop) (h : keelsonlaw3_DiskFuse p0 p1 H Q) :
    CallsH Try.prog 6 #[.int .i64 p0, Sl.v p1] H (fun v H' => ∃ (r0 : Bool), v = .bool r0 ∧ Q r0 H') := by
  unfold keelsonlaw3_DiskFuse at h
  refine callsH_of_go Try.func6 rfl Try.ntmps6 (Nat.le_of_ble_eq_true rfl) ?_
  refine Go.seq ?_
  refine Go.region rfl ?_
  refine GoOps.q (v := .bool false) rfl rfl (by decide) (q_assign rfl) ?_
  refine GoOps.nil ?_
  refine Go.seq ?_
  refine Go.seq ?_
  refine Go.region rfl ?_
  refine GoOps.q (v := .int .i64 p0) rfl rfl (by decide) (q_move rfl) ?_
  refine GoOps.q (v := .bool (decide (p0 < 0))) rfl rfl (by decide) (q_lss rfl rfl) ?_
  refine GoOps.q (v := .bool (decide (p0 < 0))) rfl rfl (by decide) (q_move rfl) ?_
  refine join_ops 3 (fun ρ (s2 : Bool) => ρ 0 = .int .i64 p0 ∧ ρ 1 = Sl.v p1 ∧ ρ 20 = .bool s2) h ?_ ?_ <;> clear h
  · intro s2 H4 ρ h hE
    obtain ⟨e5_0, e5_1, e5_20⟩ := hE
    refine GoOps.q (v := .bool s2) rfl rfl (by decide) (q_move e5_20) ?_
    refine join_ops 4 (fun ρ (s7 : Bool) => ρ 0 = .int .i64 p0 ∧ ρ 1 = Sl.v p1 ∧ ρ 25 = .bool s7) h ?_ ?_ <;> clear h
    · intro s7 H9 ρ h hE
      obtain ⟨e10_0, e10_1, e10_25⟩ := hE
      refine GoOps.nil ?_
      rcases bor s7 with hc11 | hc11
      · have h := h.1 hc11
        refine Go.condT (btT e10_25 hc11) ?_
        refine Go.seq ?_
        refine Go.region rfl ?_
        refine call_dst rfl (by decide) body17 (keelsonlaw3_awake_s _ _ h) rfl ?_
        rintro _ H12 ⟨y13, rfl, h⟩
        refine GoOps.q (v := .bool y13) rfl rfl (by decide) (q_assign rfl) ?_
        refine GoOps.nil ?_
        exact Go.ret ⟨.inl rfl, _, _, DOk.nil, (resOk1 Try.results6 rfl), ⟨_, rfl, h⟩⟩
      · have h := h.2 hc11
        refine Go.condF (btF e10_25 hc11) ?_
        refine Go.skip ?_
        refine Go.seq ?_
        refine Go.region rfl ?_
        refine call_dst rfl (by decide) body10 (vdisk_New_s _ _ _ h) rfl ?_
        rintro _ H14 ⟨y15, y16, rfl, h⟩
        refine GoOps.q (v := .tuple #[.pointer y15, .int .i64 y16]) rfl rfl (by decide) (q_move rfl) ?_
        refine GoOps.q (v := .pointer y15) rfl rfl (by decide) (q_extract rfl rfl) ?_
        refine GoOps.q (v := .int .i64 y16) rfl rfl (by decide) (q_extract rfl rfl) ?_
        refine GoOps.q (v := .pointer y15) rfl rfl (by decide) (q_assign rfl) ?_
        refine GoOps.q (v := .int .i64 y16) rfl rfl (by decide) (q_assign rfl) ?_
        refine GoOps.nil ?_
        refine Go.seq ?_
        refine Go.seq ?_
        refine Go.region rfl ?_
        refine GoOps.q (v := .int .i64 y16) rfl rfl (by decide) (q_move rfl) ?_
        refine GoOps.q (v := .bool (y16 != 0)) rfl rfl (by decide) (q_neq rfl rfl) ?_
        refine GoOps.q (v := .bool (y16 != 0)) rfl rfl (by decide) (q_move rfl) ?_
        refine join_ops 3 (fun ρ (s18 : Bool) => ρ 0 = .int .i64 p0 ∧ ρ 1 = Sl.v p1 ∧ ρ 5 = .pointer y15 ∧ ρ 36 = .bool s18) h ?_ ?_ <;> clear h
        · intro s18 H20 ρ h hE
          obtain ⟨e21_0, e21_1, e21_5, e21_36⟩ := hE
          refine GoOps.nil ?_
          rcases bor s18 with hc22 | hc22
          · have h := h.1 hc22
            refine Go.condT (btT e21_36 hc22) ?_
            refine Go.seq ?_
            refine Go.region rfl ?_
            refine GoOps.q (v := .bool false) rfl rfl (by decide) (q_assign rfl) ?_
            refine GoOps.nil ?_
            exact Go.ret ⟨.inl rfl, _, _, DOk.nil, (resOk1 Try.results6 rfl), ⟨_, rfl, h⟩⟩
          · have h := h.2 hc22
            refine Go.condF (btF e21_36 hc22) ?_
            refine Go.skip ?_
            refine Go.seq ?_
            refine Go.region rfl ?_
            refine GoOps.q (v := .pointer y15) rfl rfl (by decide) (q_move e21_5) ?_
            refine GoOps.q (v := .int .i64 p0) rfl rfl (by decide) (q_move e21_0) ?_
            refine call_dst rfl (by decide) body22 (vdisk_Disk_Fuse_s _ _ _ _ h) rfl ?_
            rintro _ H23 ⟨rfl, h⟩
            refine GoOps.nil ?_
            refine Go.seq ?_
            refine Go.region rfl ?_
            refine GoOps.q (v := .int .i64 0) rfl rfl (by decide) (q_assign rfl) ?_
            refine GoOps.nil ?_
            refine Go.seq ?_
            refine Go.seq ?_
            refine Go.region rfl ?_
            refine GoOps.q (v := .int .i64 0) rfl rfl (by decide) (q_assign rfl) ?_
            refine GoOps.nil ?_
            refine Go.block ?_
            refine loop_go (fun ρ (s24 : Int × Int) => ρ 0 = .int .i64 p0 ∧ ρ 1 = Sl.v p1 ∧ ρ 5 = .pointer y15 ∧ ρ 7 = .int .i64 s24.1 ∧ ρ 8 = .int .i64 s24.2) h ⟨e21_0, e21_1, e21_5, rfl, rfl⟩ ?_
            clear h
            intro ρ s24 H27 again25 hE h hagain25
            obtain ⟨e26_0, e26_1, e26_5, e26_7, e26_8⟩ := hE
            refine Go.seq ?_
            refine Go.seq ?_
            refine Go.region rfl ?_
            refine GoOps.q (v := .int .i64 s24.2) rfl rfl (by decide) (q_move e26_8) ?_
            refine GoOps.q (v := Sl.v p1) rfl rfl (by decide) (q_move e26_1) ?_
            refine GoOps.q (v := .int .i64 (p1.len : Int)) rfl rfl (by decide) (q_len Try.underlying37 rfl (ls1 rfl)) ?_
            refine GoOps.q (v := .bool (decide (s24.2 < (p1.len : Int)))) rfl rfl (by decide) (q_lss rfl rfl) ?_
            refine GoOps.nil ?_
            rcases bor (decide (s24.2 < (p1.len : Int))) with hc28 | hc28
            · have h := h.1 hc28
              refine Go.condT (btT rfl hc28) ?_
              refine Go.skip ?_
              refine Go.seq ?_
              refine Go.block ?_
              refine Go.seq ?_
              refine Go.region rfl ?_
              refine GoOps.q (v := .int .i64 0) rfl rfl (by decide) (q_assign rfl) ?_
              refine GoOps.nil ?_
              refine Go.seq ?_
              refine Go.seq ?_
              refine Go.region rfl ?_
              refine GoOps.q (v := Sl.v p1) rfl rfl (by decide) (q_move e26_1) ?_
              refine GoOps.q (v := .int .i64 s24.2) rfl rfl (by decide) (q_move e26_8) ?_
              obtain ⟨a29, ha30, h⟩ := h
              refine GoOps.q (v := .pointer (some a29)) rfl rfl (by decide) (q_idx slice37 ha30 rfl rfl) ?_
              obtain ⟨x31, hx32, h⟩ := h
              refine GoOps.q (v := .int .i64 x31) rfl rfl (by decide) (q_load scalar3 rfl hx32) ?_
              refine GoOps.q (v := .int .i64 (iand .i64 x31 3)) rfl rfl (by decide) (q_and rfl rfl) ?_
              refine GoOps.q (v := .bool ((iand .i64 x31 3) == 0)) rfl rfl (by decide) (q_eql rfl rfl) ?_
              refine GoOps.nil ?_
              refine join_go 1 (fun ρ (s33 : Int × Int) => ρ 0 = .int .i64 p0 ∧ ρ 1 = Sl.v p1 ∧ ρ 5 = .pointer y15 ∧ ρ 7 = .int .i64 s33.1 ∧ ρ 8 = .int .i64 s24.2 ∧ ρ 9 = .int .i64 s33.2) h ?_ ?_ <;> clear h
              · intro s33 H35 ρ h hE
                obtain ⟨e36_0, e36_1, e36_5, e36_7, e36_8, e36_9⟩ := hE
                refine Go.seq ?_
                refine Go.seq ?_
                refine Go.region rfl ?_
                refine GoOps.q (v := .int .i64 s33.2) rfl rfl (by decide) (q_move e36_9) ?_
                refine GoOps.q (v := .bool (s33.2 == 0)) rfl rfl (by decide) (q_eql rfl rfl) ?_
                refine GoOps.q (v := .int .i64 s24.2) rfl rfl (by decide) (q_move e36_8) ?_
                refine GoOps.q (v := .int .i64 p0) rfl rfl (by decide) (q_move e36_0) ?_
                refine GoOps.q (v := .bool (decide (s24.2 < p0))) rfl rfl (by decide) (q_lss rfl rfl) ?_
                refine GoOps.q (v := .bool ((s33.2 == 0) != (decide (s24.2 < p0)))) rfl rfl (by decide) (q_neqB Try.underlying4 rfl rfl) ?_
                refine GoOps.q (v := .bool ((s33.2 == 0) != (decide (s24.2 < p0)))) rfl rfl (by decide) (q_move rfl) ?_
                refine join_ops 7 (fun ρ (s38 : Bool) => ρ 0 = .int .i64 p0 ∧ ρ 1 = Sl.v p1 ∧ ρ 5 = .pointer y15 ∧ ρ 7 = .int .i64 s33.1 ∧ ρ 8 = .int .i64 s24.2 ∧ ρ 78 = .bool s38) h ?_ ?_ <;> clear h
                · intro s38 H40 ρ h hE
                  obtain ⟨e41_0, e41_1, e41_5, e41_7, e41_8, e41_78⟩ := hE
                  refine GoOps.q (v := .bool s38) rfl rfl (by decide) (q_move e41_78) ?_
                  refine join_ops 7 (fun ρ (s43 : Bool) => ρ 0 = .int .i64 p0 ∧ ρ 1 = Sl.v p1 ∧ ρ 5 = .pointer y15 ∧ ρ 7 = .int .i64 s33.1 ∧ ρ 8 = .int .i64 s24.2 ∧ ρ 86 = .bool s43) h ?_ ?_ <;> clear h
                  · intro s43 H45 ρ h hE
                    obtain ⟨e46_0, e46_1, e46_5, e46_7, e46_8, e46_86⟩ := hE
                    refine GoOps.q (v := .bool s43) rfl rfl (by decide) (q_move e46_86) ?_
                    refine join_ops 6 (fun ρ (s48 : Bool) => ρ 0 = .int .i64 p0 ∧ ρ 1 = Sl.v p1 ∧ ρ 5 = .pointer y15 ∧ ρ 7 = .int .i64 s33.1 ∧ ρ 8 = .int .i64 s24.2 ∧ ρ 93 = .bool s48) h ?_ ?_ <;> clear h
                    · intro s48 H50 ρ h hE
                      obtain ⟨e51_0, e51_1, e51_5, e51_7, e51_8, e51_93⟩ := hE
                      refine GoOps.nil ?_
                      rcases bor s48 with hc52 | hc52
                      · have h := h.1 hc52
                        refine Go.condT (btT e51_93 hc52) ?_
                        refine Go.seq ?_
                        refine Go.region rfl ?_
                        refine GoOps.q (v := .bool false) rfl rfl (by decide) (q_assign rfl) ?_
                        refine GoOps.nil ?_
                        exact Go.ret ⟨.inl rfl, _, _, DOk.nil, (resOk1 Try.results6 rfl), ⟨_, rfl, h⟩⟩
                      · have h := h.2 hc52
                        refine Go.condF (btF e51_93 hc52) ?_
                        refine Go.skip ?_
                        refine Go.seq ?_
                        refine Go.region rfl ?_
                        refine GoOps.q (v := .int .i64 s24.2) rfl rfl (by decide) (q_move e51_8) ?_
                        refine GoOps.q (v := .int .i64 p0) rfl rfl (by decide) (q_move e51_0) ?_
                        refine GoOps.q (v := .bool (decide (s24.2 < p0))) rfl rfl (by decide) (q_lss rfl rfl) ?_
                        refine GoOps.q (v := .bool (decide (s24.2 < p0))) rfl rfl (by decide) (q_move rfl) ?_
                        refine join_ops 5 (fun ρ (s54 : Bool) => ρ 0 = .int .i64 p0 ∧ ρ 1 = Sl.v p1 ∧ ρ 5 = .pointer y15 ∧ ρ 7 = .int .i64 s33.1 ∧ ρ 8 = .int .i64 s24.2 ∧ ρ 102 = .bool s54) h ?_ ?_ <;> clear h
                        · intro s54 H56 ρ h hE
                          obtain ⟨e57_0, e57_1, e57_5, e57_7, e57_8, e57_102⟩ := hE
                          refine GoOps.nil ?_
                          rcases bor s54 with hc58 | hc58
                          · have h := h.1 hc58
                            refine Go.condT (btT e57_102 hc58) ?_
                            refine Go.seq ?_
                            refine Go.region rfl ?_
                            refine GoOps.q (v := .bool false) rfl rfl (by decide) (q_assign rfl) ?_
                            refine GoOps.nil ?_
                            exact Go.ret ⟨.inl rfl, _, _, DOk.nil, (resOk1 Try.results6 rfl), ⟨_, rfl, h⟩⟩
                          · have h := h.2 hc58
                            refine Go.condF (btF e57_102 hc58) ?_
                            refine Go.skip ?_
                            refine Go.inBlock ?_
                            refine Go.region rfl ?_
                            refine GoOps.q (v := .int .i64 s24.2) rfl rfl (by decide) (q_move e57_8) ?_
                            refine GoOps.q (v := .int .i64 (IntKind.wrap .i64 (s24.2 + 1))) rfl rfl (by decide) (q_add rfl rfl) ?_
                            refine GoOps.q (v := .int .i64 (IntKind.wrap .i64 (s24.2 + 1))) rfl rfl (by decide) (q_assign rfl) ?_
                            refine GoOps.nil ?_
                            exact hagain25 _ _ _ h ⟨e57_0, e57_1, e57_5, e57_7, rfl⟩
                        · intro j55 hj55 h
                          rcases bor (decide (s24.2 < p0)) with hc53 | hc53
                          · have h := h.1 hc53
                            refine GoOps.q (v := .pointer y15) (want_yes rfl rfl rfl hc53) rfl (by decide) (q_move e51_5) ?_
                            refine call_dst (want_yes rfl rfl rfl hc53) (by decide) body19 (vdisk_Disk_Held_s _ _ _ h) rfl ?_
                            rintro _ H59 ⟨y60, rfl, h⟩
                            refine GoOps.q (v := .int .i64 s33.1) (want_yes rfl rfl rfl hc53) rfl (by decide) (q_move e51_7) ?_
                            refine GoOps.q (v := .bool (y60 != s33.1)) (want_yes rfl rfl rfl hc53) rfl (by decide) (q_neq rfl rfl) ?_
                            refine GoOps.q (v := .bool (y60 != s33.1)) rfl rfl (by decide) (q_pickT (btT rfl hc53) rfl) ?_
                            exact hj55 (y60 != s33.1) _ _ h (by exact ⟨e51_0, e51_1, e51_5, e51_7, e51_8, rfl⟩)
                          · have h := h.2 hc53
                            refine no_dst (want_no rfl rfl rfl hc53) rfl (by decide) ?_
                            refine no_dst (want_no rfl rfl rfl hc53) rfl (by decide) ?_
                            refine no_dst (want_no rfl rfl rfl hc53) rfl (by decide) ?_
                            refine no_dst (want_no rfl rfl rfl hc53) rfl (by decide) ?_
                            refine GoOps.q (v := .bool false) rfl rfl (by decide) (q_pickF (btF rfl hc53) rfl) ?_
                            exact hj55 false _ _ h (by exact ⟨e51_0, e51_1, e51_5, e51_7, e51_8, rfl⟩)
                    · intro j49 hj49 h
                      rcases bor s43 with hc47 | hc47
                      · have h := h.1 hc47
                        refine no_dst (want_no rfl rfl rfl hc47) rfl (by decide) ?_
                        refine no_dst (want_no rfl rfl rfl hc47) rfl (by decide) ?_
                        refine no_dst (want_no rfl rfl rfl hc47) rfl (by decide) ?_
                        refine no_dst (want_no rfl rfl rfl hc47) rfl (by decide) ?_
                        refine no_dst (want_no rfl rfl rfl hc47) rfl (by decide) ?_
                        refine GoOps.q (v := .bool true) rfl rfl (by decide) (q_pickT (btT rfl hc47) rfl) ?_
                        exact hj49 true _ _ h (by exact ⟨e46_0, e46_1, e46_5, e46_7, e46_8, rfl⟩)
                      · have h := h.2 hc47
                        refine GoOps.q (v := .pointer y15) (want_yes rfl rfl rfl hc47) rfl (by decide) (q_move e46_5) ?_
                        refine call_dst (want_yes rfl rfl rfl hc47) (by decide) body20 (vdisk_Disk_Acts_s _ _ _ h) rfl ?_
                        rintro _ H61 ⟨y62, rfl, h⟩
                        refine GoOps.q (v := .int .i64 s24.2) (want_yes rfl rfl rfl hc47) rfl (by decide) (q_move e46_8) ?_
                        refine GoOps.q (v := .int .i64 (IntKind.wrap .i64 (s24.2 + 1))) (want_yes rfl rfl rfl hc47) rfl (by decide) (q_add rfl rfl) ?_
                        refine GoOps.q (v := .bool (y62 != (IntKind.wrap .i64 (s24.2 + 1)))) (want_yes rfl rfl rfl hc47) rfl (by decide) (q_neq rfl rfl) ?_
                        refine GoOps.q (v := .bool (y62 != (IntKind.wrap .i64 (s24.2 + 1)))) rfl rfl (by decide) (q_pickF (btF rfl hc47) rfl) ?_
                        exact hj49 (y62 != (IntKind.wrap .i64 (s24.2 + 1))) _ _ h (by exact ⟨e46_0, e46_1, e46_5, e46_7, e46_8, rfl⟩)
                  · intro j44 hj44 h
                    rcases bor s38 with hc42 | hc42
                    · have h := h.1 hc42
                      refine no_dst (want_no rfl rfl rfl hc42) rfl (by decide) ?_
                      refine no_dst (want_no rfl rfl rfl hc42) rfl (by decide) ?_
                      refine no_dst (want_no rfl rfl rfl hc42) rfl (by decide) ?_
                      refine no_dst (want_no rfl rfl rfl hc42) rfl (by decide) ?_
                      refine no_dst (want_no rfl rfl rfl hc42) rfl (by decide) ?_
                      refine no_dst (want_no rfl rfl rfl hc42) rfl (by decide) ?_
                      refine GoOps.q (v := .bool true) rfl rfl (by decide) (q_pickT (btT rfl hc42) rfl) ?_
                      exact hj44 true _ _ h (by exact ⟨e41_0, e41_1, e41_5, e41_7, e41_8, rfl⟩)
                    · have h := h.2 hc42
                      refine GoOps.q (v := .pointer y15) (want_yes rfl rfl rfl hc42) rfl (by decide) (q_move e41_5) ?_
                      refine call_dst (want_yes rfl rfl rfl hc42) (by decide) body21 (vdisk_Disk_Off_s _ _ _ h) rfl ?_
                      rintro _ H63 ⟨y64, rfl, h⟩
                      refine GoOps.q (v := .int .i64 s24.2) (want_yes rfl rfl rfl hc42) rfl (by decide) (q_move e41_8) ?_
                      refine GoOps.q (v := .int .i64 p0) (want_yes rfl rfl rfl hc42) rfl (by decide) (q_move e41_0) ?_
                      refine GoOps.q (v := .bool (decide (p0 ≤ s24.2))) (want_yes rfl rfl rfl hc42) rfl (by decide) (q_geq rfl rfl) ?_
                      refine GoOps.q (v := .bool (y64 != (decide (p0 ≤ s24.2)))) (want_yes rfl rfl rfl hc42) rfl (by decide) (q_neqB Try.underlying4 rfl rfl) ?_
                      refine GoOps.q (v := .bool (y64 != (decide (p0 ≤ s24.2)))) rfl rfl (by decide) (q_pickF (btF rfl hc42) rfl) ?_
                      exact hj44 (y64 != (decide (p0 ≤ s24.2))) _ _ h (by exact ⟨e41_0, e41_1, e41_5, e41_7, e41_8, rfl⟩)
                · intro j39 hj39 h
                  rcases bor ((s33.2 == 0) != (decide (s24.2 < p0))) with hc37 | hc37
                  · have h := h.1 hc37
                    refine no_dst (want_no rfl rfl rfl hc37) rfl (by decide) ?_
                    refine no_dst (want_no rfl rfl rfl hc37) rfl (by decide) ?_
                    refine no_dst (want_no rfl rfl rfl hc37) rfl (by decide) ?_
                    refine no_dst (want_undef rfl rfl rfl) rfl (by decide) ?_
                    refine no_dst (want_undef rfl rfl rfl) rfl (by decide) ?_
                    refine no_dst (want_no rfl rfl rfl hc37) rfl (by decide) ?_
                    refine GoOps.q (v := .bool true) rfl rfl (by decide) (q_pickT (btT rfl hc37) rfl) ?_
                    exact hj39 true _ _ h (by exact ⟨e36_0, e36_1, e36_5, e36_7, e36_8, rfl⟩)
                  · have h := h.2 hc37
                    refine GoOps.q (v := .int .i64 s33.2) (want_yes rfl rfl rfl hc37) rfl (by decide) (q_move e36_9) ?_
                    refine GoOps.q (v := .bool (s33.2 != 0)) (want_yes rfl rfl rfl hc37) rfl (by decide) (q_neq rfl rfl) ?_
                    refine GoOps.q (v := .bool (s33.2 != 0)) (want_yes rfl rfl rfl hc37) rfl (by decide) (q_move rfl) ?_
                    refine join_ops 3 (fun ρ (s66 : Bool) => ρ 0 = .int .i64 p0 ∧ ρ 1 = Sl.v p1 ∧ ρ 5 = .pointer y15 ∧ ρ 7 = .int .i64 s33.1 ∧ ρ 8 = .int .i64 s24.2 ∧ ρ 71 = .bool ((s33.2 == 0) != (decide (s24.2 < p0))) ∧ ρ 77 = .bool s66) h ?_ ?_ <;> clear h
                    · intro s66 H68 ρ h hE
                      obtain ⟨e69_0, e69_1, e69_5, e69_7, e69_8, e69_71, e69_77⟩ := hE
                      refine GoOps.q (v := .bool s66) rfl rfl (by decide) (q_pickF (btF e69_71 hc37) e69_77) ?_
                      exact hj39 s66 _ _ h (by exact ⟨e69_0, e69_1, e69_5, e69_7, e69_8, rfl⟩)
                    · intro j67 hj67 h
                      rcases bor (s33.2 != 0) with hc65 | hc65
                      · have h := h.1 hc65
                        refine GoOps.q (v := .int .i64 s33.2) (want_yes rfl rfl rfl hc65) rfl (by decide) (q_move e36_9) ?_
                        refine GoOps.q (v := .bool (s33.2 != 3)) (want_yes rfl rfl rfl hc65) rfl (by decide) (q_neq rfl rfl) ?_
                        refine GoOps.q (v := .bool (s33.2 != 3)) (want_yes rfl rfl rfl hc37) rfl (by decide) (q_pickT (btT rfl hc65) rfl) ?_
                        exact hj67 (s33.2 != 3) _ _ h (by exact ⟨e36_0, e36_1, e36_5, e36_7, e36_8, rfl, rfl⟩)
                      · have h := h.2 hc65
                        refine no_dst (want_no rfl rfl rfl hc65) rfl (by decide) ?_
                        refine no_dst (want_no rfl rfl rfl hc65) rfl (by decide) ?_
                        refine GoOps.q (v := .bool false) (want_yes rfl rfl rfl hc37) rfl (by decide) (q_pickF (btF rfl hc65) rfl) ?_
                        exact hj67 false _ _ h (by exact ⟨e36_0, e36_1, e36_5, e36_7, e36_8, rfl, rfl⟩)
              · intro j34 hj34 h
                rcases bor ((iand .i64 x31 3) == 0) with hc70 | hc70
                · have h := h.1 hc70
                  refine Go.condT (btT rfl hc70) ?_
                  refine Go.seq ?_
                  refine Go.region rfl ?_
                  refine GoOps.q (v := .pointer y15) rfl rfl (by decide) (q_move e26_5) ?_
                  refine call_dst rfl (by decide) body18 (vdisk_Disk_Flush_s _ _ _ h) rfl ?_
                  rintro _ H71 ⟨y72, rfl, h⟩
                  refine GoOps.q (v := .int .i64 y72) rfl rfl (by decide) (q_assign rfl) ?_
                  refine GoOps.nil ?_
                  refine Go.region rfl ?_
                  refine GoOps.q (v := .int .i64 0) rfl rfl (by decide) (q_assign rfl) ?_
                  refine GoOps.nil ?_
                  exact hj34 _ _ _ h ⟨e26_0, e26_1, e26_5, rfl, e26_8, rfl⟩
                · have h := h.2 hc70
                  refine Go.condF (btF rfl hc70) ?_
                  refine Go.seq ?_
                  refine Go.draw mixed ?_
                  refine plan_pure (i := 0) (d := 54) (S2 := 1) (v := .pointer y15) rfl (by decide +kernel) rfl (q_move e26_5) ?_
                  refine plan_pure (i := 1) (d := 55) (S2 := 3) (v := Sl.v p1) rfl (by decide +kernel) rfl (q_move e26_1) ?_
                  refine plan_pure (i := 2) (d := 56) (S2 := 7) (v := .int .i64 s24.2) rfl (by decide +kernel) rfl (q_move e26_8) ?_
                  obtain ⟨a73, ha74, h⟩ := h
                  refine plan_pure (i := 3) (d := 57) (S2 := 15) (v := .pointer (some a73)) rfl (by decide +kernel) rfl (q_idx slice37 ha74 rfl rfl) ?_
                  obtain ⟨x75, hx76, h⟩ := h
                  refine plan_load (i := 4) (d := 58) (S2 := 31) (v := .int .i64 x75) rfl (by decide +kernel) rfl (q_load scalar3 rfl hx76) ?_
                  refine plan_pure (i := 5) (d := 59) (S2 := 63) (v := .int .i64 (iand .i64 x75 1)) rfl (by decide +kernel) rfl (q_and rfl rfl) ?_
                  refine plan_pure (i := 6) (d := 60) (S2 := 127) (v := .int .i64 s24.2) rfl (by decide +kernel) rfl (q_move e26_8) ?_
                  refine plan_one (j := 7) (S2 := 255) (by decide +kernel) rfl (by decide) rfl ?_
                  refine do_call2 body12 (keelsonalike_Fill_s _ _ _ h) rfl ?_
                  rintro _ H77 ⟨y78, rfl, h⟩
                  obtain ⟨hr79, h⟩ := h
                  refine ⟨_, (.inr ⟨⟨_, _, rfl, rfl, q_load scalar3 rfl hr79⟩, _, rfl, rfl⟩), ?_⟩
                  refine plan_one (j := 8) (S2 := 511) (by decide +kernel) rfl (by decide) rfl ?_
                  refine do_call2 body11 (vdisk_Disk_Write_s _ _ _ _ _ h) rfl ?_
                  rintro _ H80 ⟨y81, rfl, h⟩
                  refine ⟨_, (.inl ⟨⟨[5, 8], by decide +kernel, rfl⟩, rfl⟩), ?_⟩
                  refine plan_pure (i := 9) (d := 9) (S2 := 1023) (v := .int .i64 y81) rfl (by decide +kernel) rfl (q_assign rfl) ?_
                  refine plan_done (by decide +kernel) ?_
                  refine Go.region rfl ?_
                  refine GoOps.q (v := .int .i64 s24.1) rfl rfl (by decide) (q_move e26_7) ?_
                  refine GoOps.q (v := .int .i64 (IntKind.wrap .i64 (s24.1 + 1))) rfl rfl (by decide) (q_add rfl rfl) ?_
                  refine GoOps.q (v := .int .i64 (IntKind.wrap .i64 (s24.1 + 1))) rfl rfl (by decide) (q_assign rfl) ?_
                  refine GoOps.nil ?_
                  exact hj34 _ _ _ h ⟨e26_0, e26_1, e26_5, rfl, e26_8, rfl⟩
            · have h := h.2 hc28
              refine Go.condF (btF rfl hc28) ?_
              refine Go.exit rfl ?_
              refine Go.seq ?_
              refine Go.region rfl ?_
              refine GoOps.q (v := .pointer y15) rfl rfl (by decide) (q_move e26_5) ?_
              refine call_dst rfl (by decide) body14 (vdisk_Disk_Read_s _ _ _ _ h) rfl ?_
              rintro _ H82 ⟨y83, y84, rfl, h⟩
              refine GoOps.q (v := .tuple #[Sl.v y83, .int .i64 y84]) rfl rfl (by decide) (q_move rfl) ?_
              refine GoOps.q (v := Sl.v y83) rfl rfl (by decide) (q_extract rfl rfl) ?_
              refine GoOps.q (v := .int .i64 y84) rfl rfl (by decide) (q_extract rfl rfl) ?_
              refine GoOps.q (v := Sl.v y83) rfl rfl (by decide) (q_assign rfl) ?_
              refine GoOps.q (v := .int .i64 y84) rfl rfl (by decide) (q_assign rfl) ?_
              refine GoOps.nil ?_
              refine Go.seq ?_
              refine Go.region rfl ?_
              refine GoOps.q (v := .pointer y15) rfl rfl (by decide) (q_move e26_5) ?_
              refine call_dst rfl (by decide) body16 (vdisk_Disk_Crash_s _ _ _ _ h) rfl ?_
              rintro _ H85 ⟨y86, rfl, h⟩
              refine GoOps.q (v := .pointer y86) rfl rfl (by decide) (q_assign rfl) ?_
              refine GoOps.nil ?_
              refine Go.seq ?_
              refine Go.seq ?_
              refine Go.region rfl ?_
              refine GoOps.q (v := .pointer y86) rfl rfl (by decide) (q_move rfl) ?_
              refine GoOps.q (v := .bool (Option.isNone y86)) rfl rfl (by decide) (q_eqlPn Try.underlying23 rfl rfl) ?_
              refine GoOps.nil ?_
              rcases bor (Option.isNone y86) with hc87 | hc87
              · have h := h.1 hc87
                refine Go.condT (btT rfl hc87) ?_
                refine Go.seq ?_
                refine Go.region rfl ?_
                refine GoOps.q (v := .bool false) rfl rfl (by decide) (q_assign rfl) ?_
                refine GoOps.nil ?_
                exact Go.ret ⟨.inl rfl, _, _, DOk.nil, (resOk1 Try.results6 rfl), ⟨_, rfl, h⟩⟩
              · have h := h.2 hc87
                refine Go.condF (btF rfl hc87) ?_
                refine Go.skip ?_
                refine Go.seq ?_
                refine Go.region rfl ?_
                refine GoOps.q (v := .pointer y86) rfl rfl (by decide) (q_move rfl) ?_
                refine call_dst rfl (by decide) body14 (vdisk_Disk_Read_s _ _ _ _ h) rfl ?_
                rintro _ H88 ⟨y89, y90, rfl, h⟩
                refine GoOps.q (v := .tuple #[Sl.v y89, .int .i64 y90]) rfl rfl (by decide) (q_move rfl) ?_
                refine GoOps.q (v := Sl.v y89) rfl rfl (by decide) (q_extract rfl rfl) ?_
                refine GoOps.q (v := .int .i64 y90) rfl rfl (by decide) (q_extract rfl rfl) ?_
                refine GoOps.q (v := Sl.v y89) rfl rfl (by decide) (q_assign rfl) ?_
                refine GoOps.q (v := .int .i64 y90) rfl rfl (by decide) (q_assign rfl) ?_
                refine GoOps.nil ?_
                refine Go.seq ?_
                refine Go.region rfl ?_
                refine GoOps.q (v := .int .i64 y84) rfl rfl (by decide) (q_move rfl) ?_
                refine GoOps.q (v := .bool (y84 == 0)) rfl rfl (by decide) (q_eql rfl rfl) ?_
                refine GoOps.q (v := Sl.v p1) rfl rfl (by decide) (q_move e26_1) ?_
                refine GoOps.q (v := .int .i64 (p1.len : Int)) rfl rfl (by decide) (q_len Try.underlying37 rfl (ls1 rfl)) ?_
                refine GoOps.q (v := .int .i64 p0) rfl rfl (by decide) (q_move e26_0) ?_
                refine GoOps.q (v := .bool (decide ((p1.len : Int) ≤ p0))) rfl rfl (by decide) (q_leq rfl rfl) ?_
                refine GoOps.q (v := .bool ((y84 == 0) == (decide ((p1.len : Int) ≤ p0)))) rfl rfl (by decide) (q_eqlB Try.underlying4 rfl rfl) ?_
                refine GoOps.q (v := .bool ((y84 == 0) == (decide ((p1.len : Int) ≤ p0)))) rfl rfl (by decide) (q_move rfl) ?_
                refine join_ops 3 (fun ρ (s92 : Bool) => ρ 12 = .pointer y86 ∧ ρ 127 = .bool s92) h ?_ ?_ <;> clear h
                · intro s92 H94 ρ h hE
                  obtain ⟨e95_12, e95_127⟩ := hE
                  refine GoOps.q (v := .bool s92) rfl rfl (by decide) (q_move e95_127) ?_
                  refine join_ops 5 (fun ρ (s97 : Bool) => ρ 133 = .bool s97) h ?_ ?_ <;> clear h
                  · intro s97 H99 ρ h hE
                    have e100_133 := hE
                    refine GoOps.q (v := .bool s97) rfl rfl (by decide) (q_move e100_133) ?_
                    refine join_ops 2 (fun ρ (s102 : Bool) => ρ 136 = .bool s102) h ?_ ?_ <;> clear h
                    · intro s102 H104 ρ h hE
                      have e105_136 := hE
                      refine GoOps.q (v := .bool s102) rfl rfl (by decide) (q_assign e105_136) ?_
                      refine GoOps.nil ?_
                      exact Go.ret ⟨.inl rfl, _, _, DOk.nil, (resOk1 Try.results6 rfl), ⟨_, rfl, h⟩⟩
                    · intro j103 hj103 h
                      rcases bor s97 with hc101 | hc101
                      · have h := h.1 hc101
                        refine call_dst (want_yes rfl rfl rfl hc101) (by decide) body17 (keelsonlaw3_awake_s _ _ h) rfl ?_
                        rintro _ H106 ⟨y107, rfl, h⟩
                        refine GoOps.q (v := .bool y107) rfl rfl (by decide) (q_pickT (btT rfl hc101) rfl) ?_
                        exact hj103 y107 _ _ h (by exact rfl)
                      · have h := h.2 hc101
                        refine no_dst (want_no rfl rfl rfl hc101) rfl (by decide) ?_
                        refine GoOps.q (v := .bool false) rfl rfl (by decide) (q_pickF (btF rfl hc101) rfl) ?_
                        exact hj103 false _ _ h (by exact rfl)
                  · intro j98 hj98 h
                    rcases bor s92 with hc96 | hc96
                    · have h := h.1 hc96
                      refine GoOps.q (v := .pointer y86) (want_yes rfl rfl rfl hc96) rfl (by decide) (q_move e95_12) ?_
                      refine call_dst (want_yes rfl rfl rfl hc96) (by decide) body12 (keelsonalike_Fill_s _ _ _ h) rfl ?_
                      rintro _ H108 ⟨y109, rfl, h⟩
                      refine call_dst (want_yes rfl rfl rfl hc96) (by decide) body11 (vdisk_Disk_Write_s _ _ _ _ _ h) rfl ?_
                      rintro _ H110 ⟨y111, rfl, h⟩
                      refine GoOps.q (v := .bool (y111 == 0)) (want_yes rfl rfl rfl hc96) rfl (by decide) (q_eql rfl rfl) ?_
                      refine GoOps.q (v := .bool (y111 == 0)) rfl rfl (by decide) (q_pickT (btT rfl hc96) rfl) ?_
                      exact hj98 (y111 == 0) _ _ h (by exact rfl)
                    · have h := h.2 hc96
                      refine no_dst (want_no rfl rfl rfl hc96) rfl (by decide) ?_
                      refine no_dst (want_no rfl rfl rfl hc96) rfl (by decide) ?_
                      refine no_dst (want_no rfl rfl rfl hc96) rfl (by decide) ?_
                      refine no_dst (want_no rfl rfl rfl hc96) rfl (by decide) ?_
                      refine GoOps.q (v := .bool false) rfl rfl (by decide) (q_pickF (btF rfl hc96) rfl) ?_
                      exact hj98 false _ _ h (by exact rfl)
                · intro j93 hj93 h
                  rcases bor ((y84 == 0) == (decide ((p1.len : Int) ≤ p0))) with hc91 | hc91
                  · have h := h.1 hc91
                    refine GoOps.q (v := .int .i64 y90) (want_yes rfl rfl rfl hc91) rfl (by decide) (q_move rfl) ?_
                    refine GoOps.q (v := .bool (y90 == 0)) (want_yes rfl rfl rfl hc91) rfl (by decide) (q_eql rfl rfl) ?_
                    refine GoOps.q (v := .bool (y90 == 0)) rfl rfl (by decide) (q_pickT (btT rfl hc91) rfl) ?_
                    exact hj93 (y90 == 0) _ _ h (by exact ⟨rfl, rfl⟩)
                  · have h := h.2 hc91
                    refine no_dst (want_no rfl rfl rfl hc91) rfl (by decide) ?_
                    refine no_dst (want_no rfl rfl rfl hc91) rfl (by decide) ?_
                    refine GoOps.q (v := .bool false) rfl rfl (by decide) (q_pickF (btF rfl hc91) rfl) ?_
                    exact hj93 false _ _ h (by exact ⟨rfl, rfl⟩)
        · intro j19 hj19 h
          rcases bor (y16 != 0) with hc17 | hc17
          · have h := h.1 hc17
            refine no_dst (want_no rfl rfl rfl hc17) rfl (by decide) ?_
            refine no_dst (want_no rfl rfl rfl hc17) rfl (by decide) ?_
            refine GoOps.q (v := .bool true) rfl rfl (by decide) (q_pickT (btT rfl hc17) rfl) ?_
            exact hj19 true _ _ h (by exact ⟨e10_0, e10_1, rfl, rfl⟩)
          · have h := h.2 hc17
            refine GoOps.q (v := .pointer y15) (want_yes rfl rfl rfl hc17) rfl (by decide) (q_move rfl) ?_
            refine GoOps.q (v := .bool (Option.isNone y15)) (want_yes rfl rfl rfl hc17) rfl (by decide) (q_eqlPn Try.underlying23 rfl rfl) ?_
            refine GoOps.q (v := .bool (Option.isNone y15)) rfl rfl (by decide) (q_pickF (btF rfl hc17) rfl) ?_
            exact hj19 (Option.isNone y15) _ _ h (by exact ⟨e10_0, e10_1, rfl, rfl⟩)
    · intro j8 hj8 h
      rcases bor s2 with hc6 | hc6
      · have h := h.1 hc6
        refine no_dst (want_no rfl rfl rfl hc6) rfl (by decide) ?_
        refine no_dst (want_no rfl rfl rfl hc6) rfl (by decide) ?_
        refine no_dst (want_no rfl rfl rfl hc6) rfl (by decide) ?_
        refine GoOps.q (v := .bool true) rfl rfl (by decide) (q_pickT (btT rfl hc6) rfl) ?_
        exact hj8 true _ _ h (by exact ⟨e5_0, e5_1, rfl⟩)
      · have h := h.2 hc6
        refine GoOps.q (v := Sl.v p1) (want_yes rfl rfl rfl hc6) rfl (by decide) (q_move e5_1) ?_
        refine GoOps.q (v := .int .i64 (p1.len : Int)) (want_yes rfl rfl rfl hc6) rfl (by decide) (q_len Try.underlying37 rfl (ls1 rfl)) ?_
        refine GoOps.q (v := .bool (decide (100 < (p1.len : Int)))) (want_yes rfl rfl rfl hc6) rfl (by decide) (q_gtr rfl rfl) ?_
        refine GoOps.q (v := .bool (decide (100 < (p1.len : Int)))) rfl rfl (by decide) (q_pickF (btF rfl hc6) rfl) ?_
        exact hj8 (decide (100 < (p1.len : Int))) _ _ h (by exact ⟨e5_0, e5_1, rfl⟩)
  · intro j3 hj3 h
    rcases bor (decide (p0 < 0)) with hc1 | hc1
    · have h := h.1 hc1
      refine no_dst (want_no rfl rfl rfl hc1) rfl (by decide) ?_
      refine no_dst (want_no rfl rfl rfl hc1) rfl (by decide) ?_
      refine GoOps.q (v := .bool true) rfl rfl (by decide) (q_pickT (btT rfl hc1) rfl) ?_
      exact hj3 true _ _ h (by exact ⟨rfl, rfl, rfl⟩)
    · have h := h.2 hc1
      refine GoOps.q (v := .int .i64 p0) (want_yes rfl rfl rfl hc1) rfl (by decide) (q_move rfl) ?_
      refine GoOps.q (v := .bool (decide (100 < p0))) (want_yes rfl rfl rfl hc1) rfl (by decide) (q_gtr rfl rfl) ?_
      refine GoOps.q (v := .bool (decide (100 < p0))) rfl rfl (by decide) (q_pickF (btF rfl hc1) rfl) ?_
      exact hj3 (decide (100 < p0)) _ _ h (by exact ⟨rfl, rfl, rfl⟩)

/-- keelson.keelsonref1.Within -/
def keelsonref1_Within (p0 : Int) (p1 : Int) (p2 : Int) (H : PH) (Q : Bool → PH → Prop) : Prop :=
  mJoin (fun (s2 : Bool) (H4 : PH) =>
  Q s2 H4)
  fun j3 =>
  mIf (decide (p1 ≤ p0))
  (j3 (decide (p0 ≤ p2)) H)
  (j3 false H)

set_option maxRecDepth 20000 in
set_option maxHeartbeats 1000000 in
theorem keelsonref1_Within_s (p0 : Int) (p1 : Int) (p2 : Int) (H : PH) (Q : Bool → PH → Prop) (h : keelsonref1_Within p0 p1 p2 H Q) :
    CallsH Try.prog 39 #[.int .i64 p0, .int .i64 p1, .int .i64 p2] H (fun v H' => ∃ (r0 : Bool), v = .bool r0 ∧ Q r0 H') := by
  unfold keelsonref1_Within at h
  refine callsH_of_go Try.func39 rfl Try.ntmps39 (Nat.le_of_ble_eq_true rfl) ?_
  refine Go.seq ?_
  refine Go.region rfl ?_
  refine GoOps.q (v := .bool false) rfl rfl (by decide) (q_assign rfl) ?_
  refine GoOps.nil ?_
  refine Go.seq ?_
  refine Go.region rfl ?_
  refine GoOps.q (v := .int .i64 p0) rfl rfl (by decide) (q_move rfl) ?_
  refine GoOps.q (v := .int .i64 p1) rfl rfl (by decide) (q_move rfl) ?_
  refine GoOps.q (v := .bool (decide (p1 ≤ p0))) rfl rfl (by decide) (q_geq rfl rfl) ?_
  refine GoOps.q (v := .bool (decide (p1 ≤ p0))) rfl rfl (by decide) (q_move rfl) ?_
  refine join_ops 4 (fun ρ (s2 : Bool) => ρ 14 = .bool s2) h ?_ ?_ <;> clear h
  · intro s2 H4 ρ h hE
    have e5_14 := hE
    refine GoOps.q (v := .bool s2) rfl rfl (by decide) (q_assign e5_14) ?_
    refine GoOps.nil ?_
    exact Go.ret ⟨.inl rfl, _, _, DOk.nil, (resOk1 Try.results39 rfl), ⟨_, rfl, h⟩⟩
  · intro j3 hj3 h
    rcases bor (decide (p1 ≤ p0)) with hc1 | hc1
    · have h := h.1 hc1
      refine GoOps.q (v := .int .i64 p0) (want_yes rfl rfl rfl hc1) rfl (by decide) (q_move rfl) ?_
      refine GoOps.q (v := .int .i64 p2) (want_yes rfl rfl rfl hc1) rfl (by decide) (q_move rfl) ?_
      refine GoOps.q (v := .bool (decide (p0 ≤ p2))) (want_yes rfl rfl rfl hc1) rfl (by decide) (q_leq rfl rfl) ?_
      refine GoOps.q (v := .bool (decide (p0 ≤ p2))) rfl rfl (by decide) (q_pickT (btT rfl hc1) rfl) ?_
      exact hj3 (decide (p0 ≤ p2)) _ _ h (by exact rfl)
    · have h := h.2 hc1
      refine no_dst (want_no rfl rfl rfl hc1) rfl (by decide) ?_
      refine no_dst (want_no rfl rfl rfl hc1) rfl (by decide) ?_
      refine no_dst (want_no rfl rfl rfl hc1) rfl (by decide) ?_
      refine GoOps.q (v := .bool false) rfl rfl (by decide) (q_pickF (btF rfl hc1) rfl) ?_
      exact hj3 false _ _ h (by exact rfl)

/-- keelson.keelsonref1.NewDisk -/
def keelsonref1_NewDisk (p0 : Int) (H : PH) (Q : Option Addr → PH → Prop) : Prop :=
  keelsonref1_Within p0 1 4096 H fun y2 H1 =>
  mIf (!y2)
  (Q none H1)
  (mMk H1 4 1 [.bool false] p0 p0 fun r4 H5 =>
  mNew H5 (row [Sl.v Sl.nil, Sl.v Sl.nil, Sl.v r4, .int .i64 (-1), .bool false, .int .i64 0, Sl.v Sl.nil] 64) fun a8 H9 =>
  mLoop (fun (s11 : Int) (H14 : PH) (again12 : Int → PH → Prop) =>
  mIf (decide (s11 < p0))
  (mLd Sl.v H14 (a8.add 0) fun x16 =>
  mBoth (MkOk 1 64 64) <|
  mNewSI H14 (row (zeros (64 : Int).toNat [.int .u8 0]) 5) 64 64 fun r19 H20 =>
  mSame H20 (a8.add 0) (Sl.v x16) <|
  mNewS H20 (row [Sl.v r19] 28) 1 fun r23 H24 =>
  mSame H24 (a8.add 0) (Sl.v x16) <|
  mApp H24 28 1 24 [.slice none 0 0] x16 r23 fun r27 H28 =>
  mSt H28 (a8.add 0) ([Sl.v r27]) fun H29 =>
  again12 (IntKind.wrap .i64 (s11 + 1)) H29)
  (Q (some a8) H14))
  0 H9)

set_option maxRecDepth 20000 in
set_option maxHeartbeats 1000000 in
theorem keelsonref1_NewDisk_s (p0 : Int) (H : PH) (Q : Option Addr → PH → Prop) (h : keelsonref1_NewDisk p0 H Q) :
    CallsH Try.prog 28 #[.int .i64 p0] H (fun v H' => ∃ (r0 : Option Addr), v = .pointer r0 ∧ Q r0 H') := by
  unfold keelsonref1_NewDisk at h
  refine callsH_of_go Try.func28 rfl Try.ntmps28 (Nat.le_of_ble_eq_true rfl) ?_
  refine Go.seq ?_
  refine Go.region rfl ?_
  refine GoOps.q (v := .pointer none) rfl rfl (by decide) (q_assign rfl) ?_
  refine GoOps.nil ?_
  refine Go.seq ?_
  refine Go.seq ?_
  refine Go.region rfl ?_
  refine GoOps.q (v := .int .i64 p0) rfl rfl (by decide) (q_move rfl) ?_
  refine call_dst rfl (by decide) body39 (keelsonref1_Within_s _ _ _ _ _ h) rfl ?_
  rintro _ H1 ⟨y2, rfl, h⟩
  refine GoOps.q (v := .bool (!y2)) rfl rfl (by decide) (q_not rfl) ?_
  refine GoOps.nil ?_
  rcases bor (!y2) with hc3 | hc3
  · have h := h.1 hc3
    refine Go.condT (btT rfl hc3) ?_
    refine Go.seq ?_
    refine Go.region rfl ?_
    refine GoOps.q (v := .pointer none) rfl rfl (by decide) (q_assign rfl) ?_
    refine GoOps.nil ?_
    exact Go.ret ⟨.inl rfl, _, _, DOk.nil, (resOk1 Try.results28 rfl), ⟨_, rfl, h⟩⟩
  · have h := h.2 hc3
    refine Go.condF (btF rfl hc3) ?_
    refine Go.skip ?_
    refine Go.seq ?_
    refine Go.region rfl ?_
    refine GoOps.q (v := .int .i64 p0) rfl rfl (by decide) (q_move rfl) ?_
    obtain ⟨hm7, h⟩ := h
    refine op_dst rfl rfl (by decide) (do_mk (zs := [.bool false]) slice62 bytes4 (by decide) zero4 rfl rfl (by decide) rfl rfl hm7 fun r4 H5 hb6 => ?_) 
    have h := h r4 H5 hb6
    refine GoOps.q (v := .agg ([Sl.v Sl.nil, Sl.v Sl.nil, Sl.v r4, .int .i64 (-1), .bool false, .int .i64 0, Sl.v Sl.nil] : List Value).toArray) rfl rfl (by decide) (q_build (ps := [(2, Sl.v r4), (3, .int .i64 (-1))]) (cs := [Sl.v Sl.nil, Sl.v Sl.nil, Sl.v r4, .int .i64 (-1), .bool false, .int .i64 0, Sl.v Sl.nil]) places64 zero64 rfl rfl rfl) ?_
    refine op_dst rfl rfl (by decide) (do_newBox (cs := [Sl.v Sl.nil, Sl.v Sl.nil, Sl.v r4, .int .i64 (-1), .bool false, .int .i64 0, Sl.v Sl.nil]) rfl rfl fun a8 H9 hb10 => ?_) 
    have h := h a8 H9 hb10
    refine GoOps.q (v := .pointer (some a8)) rfl rfl (by decide) (q_assign rfl) ?_
    refine GoOps.nil ?_
    refine Go.seq ?_
    refine Go.seq ?_
    refine Go.region rfl ?_
    refine GoOps.q (v := .int .i64 0) rfl rfl (by decide) (q_assign rfl) ?_
    refine GoOps.nil ?_
    refine Go.block ?_
    refine loop_go (fun ρ (s11 : Int) => ρ 0 = .int .i64 p0 ∧ ρ 3 = .pointer (some a8) ∧ ρ 4 = .int .i64 s11) h ⟨rfl, rfl, rfl⟩ ?_
    clear h
    intro ρ s11 H14 again12 hE h hagain12
    obtain ⟨e13_0, e13_3, e13_4⟩ := hE
    refine Go.seq ?_
    refine Go.seq ?_
    refine Go.region rfl ?_
    refine GoOps.q (v := .int .i64 s11) rfl rfl (by decide) (q_move e13_4) ?_
    refine GoOps.q (v := .int .i64 p0) rfl rfl (by decide) (q_move e13_0) ?_
    refine GoOps.q (v := .bool (decide (s11 < p0))) rfl rfl (by decide) (q_lss rfl rfl) ?_
    refine GoOps.nil ?_
    rcases bor (decide (s11 < p0)) with hc15 | hc15
    · have h := h.1 hc15
      refine Go.condT (btT rfl hc15) ?_
      refine Go.skip ?_
      refine Go.seq ?_
      refine Go.block ?_
      refine Go.draw mixed ?_
      refine plan_pure (i := 0) (d := 17) (S2 := 1) (v := .pointer (some a8)) rfl (by decide +kernel) rfl (q_move e13_3) ?_
      refine plan_pure (i := 1) (d := 18) (S2 := 3) (v := .pointer (some a8)) rfl (by decide +kernel) rfl (q_move e13_3) ?_
      refine plan_pure (i := 2) (d := 19) (S2 := 7) (v := .pointer (some a8)) rfl (by decide +kernel) rfl (q_nilCheck rfl) ?_
      refine plan_pure (i := 3) (d := 20) (S2 := 15) (v := .pointer (some (a8.add 0))) rfl (by decide +kernel) rfl (q_fieldAddr foff64_0 rfl) ?_
      obtain ⟨x16, hx17, h⟩ := h
      refine plan_load (i := 4) (d := 21) (S2 := 31) (v := Sl.v x16) rfl (by decide +kernel) rfl (q_load scalar41 rfl hx17) ?_
      obtain ⟨hm18, h⟩ := h
      refine plan_one (j := 5) (S2 := 63) (by decide +kernel) rfl (by decide) rfl ?_
      refine do_mk (zs := [.int .u8 0]) slice28 bytes5 (by decide) zero5 rfl rfl (by decide) rfl rfl hm18 fun r19 H20 hb21 => ?_
      have h := h r19 H20 hb21
      obtain ⟨hr22, h⟩ := h
      refine ⟨_, (.inr ⟨⟨_, _, rfl, rfl, q_load scalar41 rfl hr22⟩, _, rfl, rfl⟩), ?_⟩
      refine plan_one (j := 6) (S2 := 127) (by decide +kernel) rfl (by decide) rfl ?_
      refine do_bs (ps := [(0, Sl.v r19)]) (zs := [.slice none 0 0]) (cs := [Sl.v r19]) slice41 zero28 rfl rfl (by decide) (by decide) rfl rfl fun r23 H24 hb25 => ?_
      have h := h r23 H24 hb25
      obtain ⟨hr26, h⟩ := h
      refine ⟨_, (.inr ⟨⟨_, _, rfl, rfl, q_load scalar41 rfl hr26⟩, _, rfl, rfl⟩), ?_⟩
      refine plan_one (j := 7) (S2 := 255) (by decide +kernel) rfl (by decide) rfl ?_
      refine do_append (zs := [.slice none 0 0]) slice41 bytes28 (by decide) zero28 rfl rfl (by decide) rfl rfl Try.underlying41 rfl h fun r27 H28 h => ?_
      refine ⟨_, (.inl ⟨⟨[7], by decide +kernel, rfl⟩, rfl⟩), ?_⟩
      refine plan_pure (i := 8) (d := 25) (S2 := 511) (v := .pointer (some a8)) rfl (by decide +kernel) rfl (q_nilCheck rfl) ?_
      refine plan_pure (i := 9) (d := 26) (S2 := 1023) (v := .pointer (some (a8.add 0))) rfl (by decide +kernel) rfl (q_fieldAddr foff64_0 rfl) ?_
      refine plan_one (j := 10) (S2 := 2047) (by decide +kernel) rfl (by decide) rfl ?_
      obtain ⟨q30b, q30o, q30c, q30e, hq30a, hq30b, hq30l, hq30v, h⟩ := h
      refine do_store (vs := [Sl.v r27]) size41 (pta rfl hq30a) rfl rfl rfl hq30v hq30b hq30l ?_
      refine ⟨_, rfl, ?_⟩
      refine plan_done (by decide +kernel) ?_
      refine Go.inBlock ?_
      refine Go.region rfl ?_
      refine GoOps.q (v := .int .i64 s11) rfl rfl (by decide) (q_move e13_4) ?_
      refine GoOps.q (v := .int .i64 (IntKind.wrap .i64 (s11 + 1))) rfl rfl (by decide) (q_add rfl rfl) ?_
      refine GoOps.q (v := .int .i64 (IntKind.wrap .i64 (s11 + 1))) rfl rfl (by decide) (q_assign rfl) ?_
      refine GoOps.nil ?_
      exact hagain12 _ _ _ h ⟨e13_0, e13_3, rfl⟩
    · have h := h.2 hc15
      refine Go.condF (btF rfl hc15) ?_
      refine Go.exit rfl ?_
      refine Go.seq ?_
      refine Go.region rfl ?_
      refine GoOps.q (v := .pointer (some a8)) rfl rfl (by decide) (q_move e13_3) ?_
      refine GoOps.q (v := .pointer (some a8)) rfl rfl (by decide) (q_assign rfl) ?_
      refine GoOps.nil ?_
      exact Go.ret ⟨.inl rfl, _, _, DOk.nil, (resOk1 Try.results28 rfl), ⟨_, rfl, h⟩⟩

/-- keelson.keelsonkit.Two -/
def keelsonkit_Two (p0 : Int) (H : PH) (Q : Option Addr → Option Addr → Bool → PH → Prop) : Prop :=
  vdisk_New p0 H fun y2 y3 H1 =>
  keelsonref1_NewDisk p0 H1 fun y5 H4 =>
  mJoin (fun (s7 : Bool) (H9 : PH) =>
  mJoin (fun (s12 : Bool) (H14 : PH) =>
  Q y2 y5 s12 H14)
  fun j13 =>
  mIf s7
  (j13 (!(Option.isNone y5)) H9)
  (j13 false H9))
  fun j8 =>
  mIf (y3 == 0)
  (j8 (!(Option.isNone y2)) H4)
  (j8 false H4)

set_option maxRecDepth 20000 in
set_option maxHeartbeats 1000000 in
theorem keelsonkit_Two_s (p0 : Int) (H : PH) (Q : Option Addr → Option Addr → Bool → PH → Prop) (h : keelsonkit_Two p0 H Q) :
    CallsH Try.prog 23 #[.int .i64 p0] H (fun v H' => ∃ (r0 : Option Addr) (r1 : Option Addr) (r2 : Bool), v = .tuple #[.pointer r0, .pointer r1, .bool r2] ∧ Q r0 r1 r2 H') := by
  unfold keelsonkit_Two at h
  refine callsH_of_go Try.func23 rfl Try.ntmps23 (Nat.le_of_ble_eq_true rfl) ?_
  refine Go.seq ?_
  refine Go.region rfl ?_
  refine GoOps.q (v := .pointer none) rfl rfl (by decide) (q_assign rfl) ?_
  refine GoOps.q (v := .pointer none) rfl rfl (by decide) (q_assign rfl) ?_
  refine GoOps.q (v := .bool false) rfl rfl (by decide) (q_assign rfl) ?_
  refine GoOps.nil ?_
  refine Go.seq ?_
  refine Go.region rfl ?_
  refine GoOps.q (v := .int .i64 p0) rfl rfl (by decide) (q_move rfl) ?_
  refine call_dst rfl (by decide) body10 (vdisk_New_s _ _ _ h) rfl ?_
  rintro _ H1 ⟨y2, y3, rfl, h⟩
  refine GoOps.q (v := .tuple #[.pointer y2, .int .i64 y3]) rfl rfl (by decide) (q_move rfl) ?_
  refine GoOps.q (v := .pointer y2) rfl rfl (by decide) (q_extract rfl rfl) ?_
  refine GoOps.q (v := .int .i64 y3) rfl rfl (by decide) (q_extract rfl rfl) ?_
  refine GoOps.q (v := .pointer y2) rfl rfl (by decide) (q_assign rfl) ?_
  refine GoOps.q (v := .int .i64 y3) rfl rfl (by decide) (q_assign rfl) ?_
  refine GoOps.nil ?_
  refine Go.seq ?_
  refine Go.region rfl ?_
  refine GoOps.q (v := .int .i64 p0) rfl rfl (by decide) (q_move rfl) ?_
  refine call_dst rfl (by decide) body28 (keelsonref1_NewDisk_s _ _ _ h) rfl ?_
  rintro _ H4 ⟨y5, rfl, h⟩
  refine GoOps.q (v := .pointer y5) rfl rfl (by decide) (q_assign rfl) ?_
  refine GoOps.nil ?_
  refine Go.seq ?_
  refine Go.region rfl ?_
  refine GoOps.q (v := .pointer y2) rfl rfl (by decide) (q_move rfl) ?_
  refine GoOps.q (v := .pointer y5) rfl rfl (by decide) (q_move rfl) ?_
  refine GoOps.q (v := .int .i64 y3) rfl rfl (by decide) (q_move rfl) ?_
  refine GoOps.q (v := .bool (y3 == 0)) rfl rfl (by decide) (q_eql rfl rfl) ?_
  refine GoOps.q (v := .bool (y3 == 0)) rfl rfl (by decide) (q_move rfl) ?_
  refine join_ops 3 (fun ρ (s7 : Bool) => ρ 7 = .pointer y5 ∧ ρ 15 = .pointer y2 ∧ ρ 16 = .pointer y5 ∧ ρ 22 = .bool s7) h ?_ ?_ <;> clear h
  · intro s7 H9 ρ h hE
    obtain ⟨e10_7, e10_15, e10_16, e10_22⟩ := hE
    refine GoOps.q (v := .bool s7) rfl rfl (by decide) (q_move e10_22) ?_
    refine join_ops 3 (fun ρ (s12 : Bool) => ρ 15 = .pointer y2 ∧ ρ 16 = .pointer y5 ∧ ρ 26 = .bool s12) h ?_ ?_ <;> clear h
    · intro s12 H14 ρ h hE
      obtain ⟨e15_15, e15_16, e15_26⟩ := hE
      refine GoOps.q (v := .pointer y2) rfl rfl (by decide) (q_assign e15_15) ?_
      refine GoOps.q (v := .pointer y5) rfl rfl (by decide) (q_assign e15_16) ?_
      refine GoOps.q (v := .bool s12) rfl rfl (by decide) (q_assign e15_26) ?_
      refine GoOps.nil ?_
      exact Go.ret ⟨.inl rfl, _, _, DOk.nil, (resOk3 Try.results23 rfl rfl rfl), ⟨_, _, _, rfl, h⟩⟩
    · intro j13 hj13 h
      rcases bor s7 with hc11 | hc11
      · have h := h.1 hc11
        refine GoOps.q (v := .pointer y5) (want_yes rfl rfl rfl hc11) rfl (by decide) (q_move e10_7) ?_
        refine GoOps.q (v := .bool (!(Option.isNone y5))) (want_yes rfl rfl rfl hc11) rfl (by decide) (q_neqPn Try.underlying47 rfl rfl) ?_
        refine GoOps.q (v := .bool (!(Option.isNone y5))) rfl rfl (by decide) (q_pickT (btT rfl hc11) rfl) ?_
        exact hj13 (!(Option.isNone y5)) _ _ h (by exact ⟨e10_15, e10_16, rfl⟩)
      · have h := h.2 hc11
        refine no_dst (want_no rfl rfl rfl hc11) rfl (by decide) ?_
        refine no_dst (want_no rfl rfl rfl hc11) rfl (by decide) ?_
        refine GoOps.q (v := .bool false) rfl rfl (by decide) (q_pickF (btF rfl hc11) rfl) ?_
        exact hj13 false _ _ h (by exact ⟨e10_15, e10_16, rfl⟩)
  · intro j8 hj8 h
    rcases bor (y3 == 0) with hc6 | hc6
    · have h := h.1 hc6
      refine GoOps.q (v := .pointer y2) (want_yes rfl rfl rfl hc6) rfl (by decide) (q_move rfl) ?_
      refine GoOps.q (v := .bool (!(Option.isNone y2))) (want_yes rfl rfl rfl hc6) rfl (by decide) (q_neqPn Try.underlying23 rfl rfl) ?_
      refine GoOps.q (v := .bool (!(Option.isNone y2))) rfl rfl (by decide) (q_pickT (btT rfl hc6) rfl) ?_
      exact hj8 (!(Option.isNone y2)) _ _ h (by exact ⟨rfl, rfl, rfl, rfl⟩)
    · have h := h.2 hc6
      refine no_dst (want_no rfl rfl rfl hc6) rfl (by decide) ?_
      refine no_dst (want_no rfl rfl rfl hc6) rfl (by decide) ?_
      refine GoOps.q (v := .bool false) rfl rfl (by decide) (q_pickF (btF rfl hc6) rfl) ?_
      exact hj8 false _ _ h (by exact ⟨rfl, rfl, rfl, rfl⟩)

/-- (*keelson.keelsonref1.Disk).act -/
def keelsonref1_Disk_act (p0 : Option Addr) (H : PH) (Q : Bool → PH → Prop) : Prop :=
  mNil p0 fun a1 =>
  mLd (.int .i64) H (a1.add 5) fun x3 =>
  mNil p0 fun a5 =>
  mSt H (a5.add 5) ([.int .i64 (IntKind.wrap .i64 (x3 + 1))]) fun H7 =>
  mNil p0 fun a9 =>
  mLd .bool H7 (a9.add 4) fun x11 =>
  mJoin (fun (s14 : Bool) (H16 : PH) =>
  mIf s14
  (mNil p0 fun a19 =>
  mSt H16 (a19.add 4) ([.bool true]) fun H21 =>
  Q false H21)
  (mNil p0 fun a23 =>
  mLd (.int .i64) H16 (a23.add 3) fun x25 =>
  mJoin (fun (s27 : Unit) (H29 : PH) =>
  Q true H29)
  fun j28 =>
  mIf (decide (0 < x25))
  (mNil p0 fun a32 =>
  mLd (.int .i64) H16 (a32.add 3) fun x34 =>
  mNil p0 fun a36 =>
  mSt H16 (a36.add 3) ([.int .i64 (IntKind.wrap .i64 (x34 - 1))]) fun H38 =>
  j28 () H38)
  (j28 () H16)))
  fun j15 =>
  mIf x11
  (j15 true H7)
  (mNil p0 fun a40 =>
  mLd (.int .i64) H7 (a40.add 3) fun x42 =>
  j15 (x42 == 0) H7)

set_option maxRecDepth 20000 in
set_option maxHeartbeats 1000000 in
theorem keelsonref1_Disk_act_s (p0 : Option Addr) (H : PH) (Q : Bool → PH → Prop) (h : keelsonref1_Disk_act p0 H Q) :
    CallsH Try.prog 40 #[.pointer p0] H (fun v H' => ∃ (r0 : Bool), v = .bool r0 ∧ Q r0 H') := by
  unfold keelsonref1_Disk_act at h
  refine callsH_of_go Try.func40 rfl Try.ntmps40 (Nat.le_of_ble_eq_true rfl) ?_
  refine Go.seq ?_
  refine Go.region rfl ?_
  refine GoOps.q (v := .bool false) rfl rfl (by decide) (q_assign rfl) ?_
  refine GoOps.nil ?_
  refine Go.seq ?_
  refine Go.region rfl ?_
  refine GoOps.q (v := .pointer p0) rfl rfl (by decide) (q_move rfl) ?_
  obtain ⟨a1, ha2, h⟩ := h
  refine GoOps.q (v := .pointer (some a1)) rfl rfl (by decide) (q_nilCheck (ptn rfl ha2)) ?_
  refine GoOps.q (v := .pointer (some (a1.add 5))) rfl rfl (by decide) (q_fieldAddr foff64_5 rfl) ?_
  obtain ⟨x3, hx4, h⟩ := h
  refine GoOps.q (v := .int .i64 x3) rfl rfl (by decide) (q_load scalar3 rfl hx4) ?_
  refine GoOps.q (v := .int .i64 (IntKind.wrap .i64 (x3 + 1))) rfl rfl (by decide) (q_add rfl rfl) ?_
  obtain ⟨a5, ha6, h⟩ := h
  refine GoOps.q (v := .pointer (some a5)) rfl rfl (by decide) (q_nilCheck (ptn rfl ha6)) ?_
  refine GoOps.q (v := .pointer (some (a5.add 5))) rfl rfl (by decide) (q_fieldAddr foff64_5 rfl) ?_
  obtain ⟨q8b, q8o, q8c, q8e, hq8a, hq8b, hq8l, hq8v, h⟩ := h
  refine op_none rfl rfl (do_store (vs := [.int .i64 (IntKind.wrap .i64 (x3 + 1))]) size3 (pta rfl hq8a) rfl rfl rfl hq8v hq8b hq8l ?_) 
  refine GoOps.nil ?_
  refine Go.seq ?_
  refine Go.seq ?_
  refine Go.region rfl ?_
  refine GoOps.q (v := .pointer p0) rfl rfl (by decide) (q_move rfl) ?_
  obtain ⟨a9, ha10, h⟩ := h
  refine GoOps.q (v := .pointer (some a9)) rfl rfl (by decide) (q_nilCheck (ptn rfl ha10)) ?_
  refine GoOps.q (v := .pointer (some (a9.add 4))) rfl rfl (by decide) (q_fieldAddr foff64_4 rfl) ?_
  obtain ⟨x11, hx12, h⟩ := h
  refine GoOps.q (v := .bool x11) rfl rfl (by decide) (q_load scalar4 rfl hx12) ?_
  refine GoOps.q (v := .bool x11) rfl rfl (by decide) (q_move rfl) ?_
  refine join_ops 6 (fun ρ (s14 : Bool) => ρ 0 = .pointer p0 ∧ ρ 20 = .bool s14) h ?_ ?_ <;> clear h
  · intro s14 H16 ρ h hE
    obtain ⟨e17_0, e17_20⟩ := hE
    refine GoOps.nil ?_
    rcases bor s14 with hc18 | hc18
    · have h := h.1 hc18
      refine Go.condT (btT e17_20 hc18) ?_
      refine Go.seq ?_
      refine Go.region rfl ?_
      refine GoOps.q (v := .pointer p0) rfl rfl (by decide) (q_move e17_0) ?_
      obtain ⟨a19, ha20, h⟩ := h
      refine GoOps.q (v := .pointer (some a19)) rfl rfl (by decide) (q_nilCheck (ptn rfl ha20)) ?_
      refine GoOps.q (v := .pointer (some (a19.add 4))) rfl rfl (by decide) (q_fieldAddr foff64_4 rfl) ?_
      obtain ⟨q22b, q22o, q22c, q22e, hq22a, hq22b, hq22l, hq22v, h⟩ := h
      refine op_none rfl rfl (do_store (vs := [.bool true]) size4 (pta rfl hq22a) rfl rfl rfl hq22v hq22b hq22l ?_) 
      refine GoOps.nil ?_
      refine Go.seq ?_
      refine Go.region rfl ?_
      refine GoOps.q (v := .bool false) rfl rfl (by decide) (q_assign rfl) ?_
      refine GoOps.nil ?_
      exact Go.ret ⟨.inl rfl, _, _, DOk.nil, (resOk1 Try.results40 rfl), ⟨_, rfl, h⟩⟩
    · have h := h.2 hc18
      refine Go.condF (btF e17_20 hc18) ?_
      refine Go.skip ?_
      refine Go.seq ?_
      refine Go.seq ?_
      refine Go.region rfl ?_
      refine GoOps.q (v := .pointer p0) rfl rfl (by decide) (q_move e17_0) ?_
      obtain ⟨a23, ha24, h⟩ := h
      refine GoOps.q (v := .pointer (some a23)) rfl rfl (by decide) (q_nilCheck (ptn rfl ha24)) ?_
      refine GoOps.q (v := .pointer (some (a23.add 3))) rfl rfl (by decide) (q_fieldAddr foff64_3 rfl) ?_
      obtain ⟨x25, hx26, h⟩ := h
      refine GoOps.q (v := .int .i64 x25) rfl rfl (by decide) (q_load scalar3 rfl hx26) ?_
      refine GoOps.q (v := .bool (decide (0 < x25))) rfl rfl (by decide) (q_gtr rfl rfl) ?_
      refine GoOps.nil ?_
      refine join_go 1 (fun ρ (s27 : Unit) => True) h ?_ ?_ <;> clear h
      · intro s27 H29 ρ h hE
        clear hE
        refine Go.seq ?_
        refine Go.region rfl ?_
        refine GoOps.q (v := .bool true) rfl rfl (by decide) (q_assign rfl) ?_
        refine GoOps.nil ?_
        exact Go.ret ⟨.inl rfl, _, _, DOk.nil, (resOk1 Try.results40 rfl), ⟨_, rfl, h⟩⟩
      · intro j28 hj28 h
        rcases bor (decide (0 < x25)) with hc31 | hc31
        · have h := h.1 hc31
          refine Go.condT (btT rfl hc31) ?_
          refine Go.region rfl ?_
          refine GoOps.q (v := .pointer p0) rfl rfl (by decide) (q_move e17_0) ?_
          obtain ⟨a32, ha33, h⟩ := h
          refine GoOps.q (v := .pointer (some a32)) rfl rfl (by decide) (q_nilCheck (ptn rfl ha33)) ?_
          refine GoOps.q (v := .pointer (some (a32.add 3))) rfl rfl (by decide) (q_fieldAddr foff64_3 rfl) ?_
          obtain ⟨x34, hx35, h⟩ := h
          refine GoOps.q (v := .int .i64 x34) rfl rfl (by decide) (q_load scalar3 rfl hx35) ?_
          refine GoOps.q (v := .int .i64 (IntKind.wrap .i64 (x34 - 1))) rfl rfl (by decide) (q_sub rfl rfl) ?_
          obtain ⟨a36, ha37, h⟩ := h
          refine GoOps.q (v := .pointer (some a36)) rfl rfl (by decide) (q_nilCheck (ptn rfl ha37)) ?_
          refine GoOps.q (v := .pointer (some (a36.add 3))) rfl rfl (by decide) (q_fieldAddr foff64_3 rfl) ?_
          obtain ⟨q39b, q39o, q39c, q39e, hq39a, hq39b, hq39l, hq39v, h⟩ := h
          refine op_none rfl rfl (do_store (vs := [.int .i64 (IntKind.wrap .i64 (x34 - 1))]) size3 (pta rfl hq39a) rfl rfl rfl hq39v hq39b hq39l ?_) 
          refine GoOps.nil ?_
          exact hj28 _ _ _ h trivial
        · have h := h.2 hc31
          refine Go.condF (btF rfl hc31) ?_
          refine Go.skip ?_
          exact hj28 _ _ _ h trivial
  · intro j15 hj15 h
    rcases bor x11 with hc13 | hc13
    · have h := h.1 hc13
      refine no_dst (want_no rfl rfl rfl hc13) rfl (by decide) ?_
      refine no_dst (want_no rfl rfl rfl hc13) rfl (by decide) ?_
      refine no_dst (want_no rfl rfl rfl hc13) rfl (by decide) ?_
      refine no_dst (want_no rfl rfl rfl hc13) rfl (by decide) ?_
      refine no_dst (want_no rfl rfl rfl hc13) rfl (by decide) ?_
      refine GoOps.q (v := .bool true) rfl rfl (by decide) (q_pickT (btT rfl hc13) rfl) ?_
      exact hj15 true _ _ h (by exact ⟨rfl, rfl⟩)
    · have h := h.2 hc13
      refine GoOps.q (v := .pointer p0) (want_yes rfl rfl rfl hc13) rfl (by decide) (q_move rfl) ?_
      obtain ⟨a40, ha41, h⟩ := h
      refine GoOps.q (v := .pointer (some a40)) (want_yes rfl rfl rfl hc13) rfl (by decide) (q_nilCheck (ptn rfl ha41)) ?_
      refine GoOps.q (v := .pointer (some (a40.add 3))) (want_yes rfl rfl rfl hc13) rfl (by decide) (q_fieldAddr foff64_3 rfl) ?_
      obtain ⟨x42, hx43, h⟩ := h
      refine GoOps.q (v := .int .i64 x42) (want_yes rfl rfl rfl hc13) rfl (by decide) (q_load scalar3 rfl hx43) ?_
      refine GoOps.q (v := .bool (x42 == 0)) (want_yes rfl rfl rfl hc13) rfl (by decide) (q_eql rfl rfl) ?_
      refine GoOps.q (v := .bool (x42 == 0)) rfl rfl (by decide) (q_pickF (btF rfl hc13) rfl) ?_
      exact hj15 (x42 == 0) _ _ h (by exact ⟨rfl, rfl⟩)

/-- keelson.keelsonref1.Part -/
def keelsonref1_Part (p0 : Sl) (p1 : Int) (p2 : Int) (H : PH) (Q : Sl → PH → Prop) : Prop :=
  mMk H 5 1 [.int .u8 0] (IntKind.wrap .i64 (p2 - p1)) (IntKind.wrap .i64 (p2 - p1)) fun r1 H2 =>
  mCut p0 1 p1 p2 fun r6 =>
  mCopy H2 1 r1 r6 fun x7 H8 =>
  Q r1 H8

set_option maxRecDepth 20000 in
set_option maxHeartbeats 1000000 in
theorem keelsonref1_Part_s (p0 : Sl) (p1 : Int) (p2 : Int) (H : PH) (Q : Sl → PH → Prop) (h : keelsonref1_Part p0 p1 p2 H Q) :
    CallsH Try.prog 41 #[Sl.v p0, .int .i64 p1, .int .i64 p2] H (fun v H' => ∃ (r0 : Sl), v = Sl.v r0 ∧ Q r0 H') := by
  unfold keelsonref1_Part at h
  refine callsH_of_go Try.func41 rfl Try.ntmps41 (Nat.le_of_ble_eq_true rfl) ?_
  refine Go.seq ?_
  refine Go.region rfl ?_
  refine GoOps.q (v := Sl.v Sl.nil) rfl rfl (by decide) (q_assign rfl) ?_
  refine GoOps.nil ?_
  refine Go.seq ?_
  refine Go.region rfl ?_
  refine GoOps.q (v := .int .i64 p2) rfl rfl (by decide) (q_move rfl) ?_
  refine GoOps.q (v := .int .i64 p1) rfl rfl (by decide) (q_move rfl) ?_
  refine GoOps.q (v := .int .i64 (IntKind.wrap .i64 (p2 - p1))) rfl rfl (by decide) (q_sub rfl rfl) ?_
  obtain ⟨hm4, h⟩ := h
  refine op_dst rfl rfl (by decide) (do_mk (zs := [.int .u8 0]) slice28 bytes5 (by decide) zero5 rfl rfl (by decide) rfl rfl hm4 fun r1 H2 hb3 => ?_) 
  have h := h r1 H2 hb3
  refine GoOps.q (v := Sl.v r1) rfl rfl (by decide) (q_assign rfl) ?_
  refine GoOps.nil ?_
  refine Go.seq ?_
  refine Go.region rfl ?_
  refine GoOps.q (v := Sl.v r1) rfl rfl (by decide) (q_move rfl) ?_
  refine GoOps.q (v := Sl.v p0) rfl rfl (by decide) (q_move rfl) ?_
  refine GoOps.q (v := .int .i64 p1) rfl rfl (by decide) (q_move rfl) ?_
  refine GoOps.q (v := .int .i64 p2) rfl rfl (by decide) (q_move rfl) ?_
  obtain ⟨r6, hm5, h⟩ := h
  refine GoOps.q (v := Sl.v r6) rfl rfl (by decide) (q_cut slice28 hm5 rfl ⟨_, rfl⟩ ⟨_, rfl⟩) ?_
  refine op_dst rfl rfl (by decide) (do_copy slice28 rfl rfl h fun x7 H8 h => ?_) 
  refine GoOps.nil ?_
  refine Go.seq ?_
  refine Go.region rfl ?_
  refine GoOps.q (v := Sl.v r1) rfl rfl (by decide) (q_move rfl) ?_
  refine GoOps.q (v := Sl.v r1) rfl rfl (by decide) (q_assign rfl) ?_
  refine GoOps.nil ?_
  exact Go.ret ⟨.inl rfl, _, _, DOk.nil, (resOk1 Try.results41 rfl), ⟨_, rfl, h⟩⟩

/-- (*keelson.keelsonref1.Disk).Write -/
def keelsonref1_Disk_Write (p0 : Option Addr) (p1 : Int) (p2 : Sl) (H : PH) (Q : Int → PH → Prop) : Prop :=
  mNil p0 fun a1 =>
  mLd Sl.v H (a1.add 0) fun x3 =>
  keelsonref1_Within p1 0 (IntKind.wrap .i64 ((x3.len : Int) - 1)) H fun y6 H5 =>
  mJoin (fun (s8 : Bool) (H10 : PH) =>
  mIf s8
  (Q 1 H10)
  (keelsonref1_Disk_act p0 H10 fun y14 H13 =>
  mIf (!y14)
  (Q 3 H13)
  (mNil p0 fun a16 =>
  mLd Sl.v H13 (a16.add 1) fun x18 =>
  keelsonref1_Part p2 0 (p2.len : Int) H13 fun y21 H20 =>
  mSame H20 (a16.add 1) (Sl.v x18) <|
  mNewS H20 (row [.int .i64 p1, Sl.v y21] 80) 1 fun r23 H24 =>
  mSame H24 (a16.add 1) (Sl.v x18) <|
  mApp H24 80 2 32 [.int .i64 0, .slice none 0 0] x18 r23 fun r27 H28 =>
  mNil p0 fun a29 =>
  mSt H28 (a29.add 1) ([Sl.v r27]) fun H31 =>
  Q 0 H31)))
  fun j9 =>
  mIf (!y6)
  (j9 true H5)
  (j9 ((p2.len : Int) != 64) H5)

set_option maxRecDepth 20000 in
set_option maxHeartbeats 1000000 in
theorem keelsonref1_Disk_Write_s (p0 : Option Addr) (p1 : Int) (p2 : Sl) (H : PH) (Q : Int → PH → Prop) (h : keelsonref1_Disk_Write p0 p1 p2 H Q) :
    CallsH Try.prog 24 #[.pointer p0, .int .i64 p1, Sl.v p2] H (fun v H' => ∃ (r0 : Int), v = .int .i64 r0 ∧ Q r0 H') := by
  unfold keelsonref1_Disk_Write at h
  refine callsH_of_go Try.func24 rfl Try.ntmps24 (Nat.le_of_ble_eq_true rfl) ?_
  refine Go.seq ?_
  refine Go.region rfl ?_
  refine GoOps.q (v := .int .i64 0) rfl rfl (by decide) (q_assign rfl) ?_
  refine GoOps.nil ?_
  refine Go.seq ?_
  refine Go.seq ?_
  refine Go.region rfl ?_
  refine GoOps.q (v := .int .i64 p1) rfl rfl (by decide) (q_move rfl) ?_
  refine GoOps.q (v := .pointer p0) rfl rfl (by decide) (q_move rfl) ?_
  obtain ⟨a1, ha2, h⟩ := h
  refine GoOps.q (v := .pointer (some a1)) rfl rfl (by decide) (q_nilCheck (ptn rfl ha2)) ?_
  refine GoOps.q (v := .pointer (some (a1.add 0))) rfl rfl (by decide) (q_fieldAddr foff64_0 rfl) ?_
  obtain ⟨x3, hx4, h⟩ := h
  refine GoOps.q (v := Sl.v x3) rfl rfl (by decide) (q_load scalar41 rfl hx4) ?_
  refine GoOps.q (v := .int .i64 (x3.len : Int)) rfl rfl (by decide) (q_len Try.underlying41 rfl (ls1 rfl)) ?_
  refine GoOps.q (v := .int .i64 (IntKind.wrap .i64 ((x3.len : Int) - 1))) rfl rfl (by decide) (q_sub rfl rfl) ?_
  refine call_dst rfl (by decide) body39 (keelsonref1_Within_s _ _ _ _ _ h) rfl ?_
  rintro _ H5 ⟨y6, rfl, h⟩
  refine GoOps.q (v := .bool (!y6)) rfl rfl (by decide) (q_not rfl) ?_
  refine GoOps.q (v := .bool (!y6)) rfl rfl (by decide) (q_move rfl) ?_
  refine join_ops 4 (fun ρ (s8 : Bool) => ρ 0 = .pointer p0 ∧ ρ 1 = .int .i64 p1 ∧ ρ 2 = Sl.v p2 ∧ ρ 20 = .bool s8) h ?_ ?_ <;> clear h
  · intro s8 H10 ρ h hE
    obtain ⟨e11_0, e11_1, e11_2, e11_20⟩ := hE
    refine GoOps.nil ?_
    rcases bor s8 with hc12 | hc12
    · have h := h.1 hc12
      refine Go.condT (btT e11_20 hc12) ?_
      refine Go.seq ?_
      refine Go.region rfl ?_
      refine GoOps.q (v := .int .i64 1) rfl rfl (by decide) (q_assign rfl) ?_
      refine GoOps.nil ?_
      exact Go.ret ⟨.inl rfl, _, _, DOk.nil, (resOk1 Try.results24 rfl), ⟨_, rfl, h⟩⟩
    · have h := h.2 hc12
      refine Go.condF (btF e11_20 hc12) ?_
      refine Go.skip ?_
      refine Go.seq ?_
      refine Go.seq ?_
      refine Go.region rfl ?_
      refine GoOps.q (v := .pointer p0) rfl rfl (by decide) (q_move e11_0) ?_
      refine call_dst rfl (by decide) body40 (keelsonref1_Disk_act_s _ _ _ h) rfl ?_
      rintro _ H13 ⟨y14, rfl, h⟩
      refine GoOps.q (v := .bool (!y14)) rfl rfl (by decide) (q_not rfl) ?_
      refine GoOps.nil ?_
      rcases bor (!y14) with hc15 | hc15
      · have h := h.1 hc15
        refine Go.condT (btT rfl hc15) ?_
        refine Go.seq ?_
        refine Go.region rfl ?_
        refine GoOps.q (v := .int .i64 3) rfl rfl (by decide) (q_assign rfl) ?_
        refine GoOps.nil ?_
        exact Go.ret ⟨.inl rfl, _, _, DOk.nil, (resOk1 Try.results24 rfl), ⟨_, rfl, h⟩⟩
      · have h := h.2 hc15
        refine Go.condF (btF rfl hc15) ?_
        refine Go.skip ?_
        refine Go.seq ?_
        refine Go.draw mixed ?_
        refine plan_pure (i := 0) (d := 24) (S2 := 1) (v := .pointer p0) rfl (by decide +kernel) rfl (q_move e11_0) ?_
        refine plan_pure (i := 1) (d := 25) (S2 := 3) (v := .pointer p0) rfl (by decide +kernel) rfl (q_move e11_0) ?_
        obtain ⟨a16, ha17, h⟩ := h
        refine plan_pure (i := 2) (d := 26) (S2 := 7) (v := .pointer (some a16)) rfl (by decide +kernel) rfl (q_nilCheck (ptn rfl ha17)) ?_
        refine plan_pure (i := 3) (d := 27) (S2 := 15) (v := .pointer (some (a16.add 1))) rfl (by decide +kernel) rfl (q_fieldAddr foff64_1 rfl) ?_
        obtain ⟨x18, hx19, h⟩ := h
        refine plan_load (i := 4) (d := 28) (S2 := 31) (v := Sl.v x18) rfl (by decide +kernel) rfl (q_load scalar61 rfl hx19) ?_
        refine plan_pure (i := 5) (d := 29) (S2 := 63) (v := .int .i64 p1) rfl (by decide +kernel) rfl (q_move e11_1) ?_
        refine plan_pure (i := 6) (d := 30) (S2 := 127) (v := Sl.v p2) rfl (by decide +kernel) rfl (q_move e11_2) ?_
        refine plan_pure (i := 7) (d := 31) (S2 := 255) (v := Sl.v p2) rfl (by decide +kernel) rfl (q_move e11_2) ?_
        refine plan_pure (i := 8) (d := 32) (S2 := 511) (v := .int .i64 (p2.len : Int)) rfl (by decide +kernel) rfl (q_len Try.underlying28 rfl (ls1 rfl)) ?_
        refine plan_one (j := 9) (S2 := 1023) (by decide +kernel) rfl (by decide) rfl ?_
        refine do_call2 body41 (keelsonref1_Part_s _ _ _ _ _ h) rfl ?_
        rintro _ H20 ⟨y21, rfl, h⟩
        obtain ⟨hr22, h⟩ := h
        refine ⟨_, (.inr ⟨⟨_, _, rfl, rfl, q_load scalar61 rfl hr22⟩, _, rfl, rfl⟩), ?_⟩
        refine plan_pure (i := 10) (d := 34) (S2 := 2047) (v := .agg ([.int .i64 p1, Sl.v y21] : List Value).toArray) rfl (by decide +kernel) rfl (q_build (ps := [(0, .int .i64 p1), (1, Sl.v y21)]) (cs := [.int .i64 p1, Sl.v y21]) places80 zero80 rfl rfl rfl) ?_
        refine plan_one (j := 11) (S2 := 4095) (by decide +kernel) rfl (by decide) rfl ?_
        refine do_bs (ps := [(0, .agg ([.int .i64 p1, Sl.v y21] : List Value).toArray)]) (zs := [.int .i64 0, .slice none 0 0]) (cs := [.int .i64 p1, Sl.v y21]) slice61 zero80 rfl rfl (by decide) (by decide) rfl rfl fun r23 H24 hb25 => ?_
        have h := h r23 H24 hb25
        obtain ⟨hr26, h⟩ := h
        refine ⟨_, (.inr ⟨⟨_, _, rfl, rfl, q_load scalar61 rfl hr26⟩, _, rfl, rfl⟩), ?_⟩
        refine plan_one (j := 12) (S2 := 8191) (by decide +kernel) rfl (by decide) rfl ?_
        refine do_append (zs := [.int .i64 0, .slice none 0 0]) slice61 bytes80 (by decide) zero80 rfl rfl (by decide) rfl rfl Try.underlying61 rfl h fun r27 H28 h => ?_
        refine ⟨_, (.inl ⟨⟨[12], by decide +kernel, rfl⟩, rfl⟩), ?_⟩
        obtain ⟨a29, ha30, h⟩ := h
        refine plan_pure (i := 13) (d := 37) (S2 := 16383) (v := .pointer (some a29)) rfl (by decide +kernel) rfl (q_nilCheck (ptn rfl ha30)) ?_
        refine plan_pure (i := 14) (d := 38) (S2 := 32767) (v := .pointer (some (a29.add 1))) rfl (by decide +kernel) rfl (q_fieldAddr foff64_1 rfl) ?_
        refine plan_one (j := 15) (S2 := 65535) (by decide +kernel) rfl (by decide) rfl ?_
        obtain ⟨q32b, q32o, q32c, q32e, hq32a, hq32b, hq32l, hq32v, h⟩ := h
        refine do_store (vs := [Sl.v r27]) size61 (pta rfl hq32a) rfl rfl rfl hq32v hq32b hq32l ?_
        refine ⟨_, rfl, ?_⟩
        refine plan_done (by decide +kernel) ?_
        refine Go.seq ?_
        refine Go.region rfl ?_
        refine GoOps.q (v := .int .i64 0) rfl rfl (by decide) (q_assign rfl) ?_
        refine GoOps.nil ?_
        exact Go.ret ⟨.inl rfl, _, _, DOk.nil, (resOk1 Try.results24 rfl), ⟨_, rfl, h⟩⟩
  · intro j9 hj9 h
    rcases bor (!y6) with hc7 | hc7
    · have h := h.1 hc7
      refine no_dst (want_no rfl rfl rfl hc7) rfl (by decide) ?_
      refine no_dst (want_no rfl rfl rfl hc7) rfl (by decide) ?_
      refine no_dst (want_no rfl rfl rfl hc7) rfl (by decide) ?_
      refine GoOps.q (v := .bool true) rfl rfl (by decide) (q_pickT (btT rfl hc7) rfl) ?_
      exact hj9 true _ _ h (by exact ⟨rfl, rfl, rfl, rfl⟩)
    · have h := h.2 hc7
      refine GoOps.q (v := Sl.v p2) (want_yes rfl rfl rfl hc7) rfl (by decide) (q_move rfl) ?_
      refine GoOps.q (v := .int .i64 (p2.len : Int)) (want_yes rfl rfl rfl hc7) rfl (by decide) (q_len Try.underlying28 rfl (ls1 rfl)) ?_
      refine GoOps.q (v := .bool ((p2.len : Int) != 64)) (want_yes rfl rfl rfl hc7) rfl (by decide) (q_neq rfl rfl) ?_
      refine GoOps.q (v := .bool ((p2.len : Int) != 64)) rfl rfl (by decide) (q_pickF (btF rfl hc7) rfl) ?_
      exact hj9 ((p2.len : Int) != 64) _ _ h (by exact ⟨rfl, rfl, rfl, rfl⟩)


end Go.Proofs.Ytdoldlinaghfbaa

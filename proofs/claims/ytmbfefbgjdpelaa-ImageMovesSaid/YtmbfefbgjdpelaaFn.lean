import Derived.Test.YtmbfefbgjdpelaaFnp2
set_option linter.unusedVariables false
set_option linter.unusedSimpArgs false
namespace Go.Proofs.Ytmbfefbgjdpelaa
open Go Go.Kx Go.Proofs
/-- keelson.keelsonlaw16.like -/
def keelsonlaw16_like (p0 : Sl) (p1 : Sl) (H : PH) (Q : Bool → PH → Prop) : Prop :=
  mIf ((p0.len : Int) != (p1.len : Int))
  (Q false H)
  (mLoop (fun (s2 : Int) (H5 : PH) (again3 : Int → PH → Prop) =>
  mIf (decide (s2 < (p0.len : Int)))
  (mIdx p0 2 s2 fun a7 =>
  mLdR (fun (x : (Int × Int)) => [.int .i64 x.1, .int .i64 x.2]) H5 a7 2 fun x9 =>
  mIdx p1 2 s2 fun a11 =>
  mLdR (fun (x : (Int × Int)) => [.int .i64 x.1, .int .i64 x.2]) H5 a11 2 fun x13 =>
  mIf (!(andAll [x9.1 == x13.1, x9.2 == x13.2]))
  (Q false H5)
  (again3 (IntKind.wrap .i64 (s2 + 1)) H5))
  (Q true H5))
  0 H)

set_option maxRecDepth 20000 in
set_option maxHeartbeats 1000000 in
theorem keelsonlaw16_like_s (p0 : Sl) (p1 : Sl) (H : PH) (Q : Bool → PH → Prop) (h : keelsonlaw16_like p0 p1 H Q) :
    CallsH Try.prog 20 #[Sl.v p0, Sl.v p1] H (fun v H' => ∃ (r0 : Bool), v = .bool r0 ∧ Q r0 H') := by
  unfold keelsonlaw16_like at h
  refine callsH_of_go Try.func20 rfl Try.ntmps20 (Nat.le_of_ble_eq_true rfl) ?_
  refine Go.seq ?_
  refine Go.region rfl ?_
  refine GoOps.q (v := .bool false) rfl rfl (by decide) (q_assign rfl) ?_
  refine GoOps.nil ?_
  refine Go.seq ?_
  refine Go.seq ?_
  refine Go.region rfl ?_
  refine GoOps.q (v := Sl.v p0) rfl rfl (by decide) (q_move rfl) ?_
  refine GoOps.q (v := .int .i64 (p0.len : Int)) rfl rfl (by decide) (q_len Try.underlying39 rfl (ls1 rfl)) ?_
  refine GoOps.q (v := Sl.v p1) rfl rfl (by decide) (q_move rfl) ?_
  refine GoOps.q (v := .int .i64 (p1.len : Int)) rfl rfl (by decide) (q_len Try.underlying39 rfl (ls1 rfl)) ?_
  refine GoOps.q (v := .bool ((p0.len : Int) != (p1.len : Int))) rfl rfl (by decide) (q_neq rfl rfl) ?_
  refine GoOps.nil ?_
  rcases bor ((p0.len : Int) != (p1.len : Int)) with hc1 | hc1
  · have h := h.1 hc1
    refine Go.condT (btT rfl hc1) ?_
    refine Go.seq ?_
    refine Go.region rfl ?_
    refine GoOps.q (v := .bool false) rfl rfl (by decide) (q_assign rfl) ?_
    refine GoOps.nil ?_
    exact Go.ret ⟨.inl rfl, _, _, DOk.nil, (resOk1 Try.results20 rfl), ⟨_, rfl, h⟩⟩
  · have h := h.2 hc1
    refine Go.condF (btF rfl hc1) ?_
    refine Go.skip ?_
    refine Go.seq ?_
    refine Go.seq ?_
    refine Go.region rfl ?_
    refine GoOps.q (v := .int .i64 0) rfl rfl (by decide) (q_assign rfl) ?_
    refine GoOps.nil ?_
    refine Go.block ?_
    refine loop_go (fun ρ (s2 : Int) => ρ 0 = Sl.v p0 ∧ ρ 1 = Sl.v p1 ∧ ρ 5 = .int .i64 s2) h ⟨rfl, rfl, rfl⟩ ?_
    clear h
    intro ρ s2 H5 again3 hE h hagain3
    obtain ⟨e4_0, e4_1, e4_5⟩ := hE
    refine Go.seq ?_
    refine Go.seq ?_
    refine Go.region rfl ?_
    refine GoOps.q (v := .int .i64 s2) rfl rfl (by decide) (q_move e4_5) ?_
    refine GoOps.q (v := Sl.v p0) rfl rfl (by decide) (q_move e4_0) ?_
    refine GoOps.q (v := .int .i64 (p0.len : Int)) rfl rfl (by decide) (q_len Try.underlying39 rfl (ls1 rfl)) ?_
    refine GoOps.q (v := .bool (decide (s2 < (p0.len : Int)))) rfl rfl (by decide) (q_lss rfl rfl) ?_
    refine GoOps.nil ?_
    rcases bor (decide (s2 < (p0.len : Int))) with hc6 | hc6
    · have h := h.1 hc6
      refine Go.condT (btT rfl hc6) ?_
      refine Go.skip ?_
      refine Go.seq ?_
      refine Go.block ?_
      refine Go.seq ?_
      refine Go.draw mixed ?_
      refine plan_pure (i := 0) (d := 17) (S2 := 1) (v := Sl.v p0) rfl (by decide +kernel) rfl (q_move e4_0) ?_
      refine plan_pure (i := 1) (d := 18) (S2 := 3) (v := .int .i64 s2) rfl (by decide +kernel) rfl (q_move e4_5) ?_
      obtain ⟨a7, ha8, h⟩ := h
      refine plan_pure (i := 2) (d := 19) (S2 := 7) (v := .pointer (some a7)) rfl (by decide +kernel) rfl (q_idx slice39 ha8 rfl rfl) ?_
      obtain ⟨x9, hx10, h⟩ := h
      refine plan_load (i := 3) (d := 20) (S2 := 15) (v := .agg ([.int .i64 x9.1, .int .i64 x9.2] : List Value).toArray) rfl (by decide +kernel) rfl (q_loadA aggr42 rfl hx10) ?_
      refine plan_pure (i := 4) (d := 21) (S2 := 31) (v := Sl.v p1) rfl (by decide +kernel) rfl (q_move e4_1) ?_
      refine plan_pure (i := 5) (d := 22) (S2 := 63) (v := .int .i64 s2) rfl (by decide +kernel) rfl (q_move e4_5) ?_
      obtain ⟨a11, ha12, h⟩ := h
      refine plan_pure (i := 6) (d := 23) (S2 := 127) (v := .pointer (some a11)) rfl (by decide +kernel) rfl (q_idx slice39 ha12 rfl rfl) ?_
      obtain ⟨x13, hx14, h⟩ := h
      refine plan_load (i := 7) (d := 24) (S2 := 255) (v := .agg ([.int .i64 x13.1, .int .i64 x13.2] : List Value).toArray) rfl (by decide +kernel) rfl (q_loadA aggr42 rfl hx14) ?_
      refine plan_pure (i := 8) (d := 25) (S2 := 511) (v := .bool (!(andAll [x9.1 == x13.1, x9.2 == x13.2]))) rfl (by decide +kernel) rfl (q_neqA eqg42 (eqis_struct Try.underlying42 held42 (.cons (by decide) (eqat_int Try.underlying3 rfl rfl) (.cons (by decide) (eqat_int Try.underlying3 rfl rfl) rfl))) rfl rfl) ?_
      refine plan_done (by decide +kernel) ?_
      rcases bor (!(andAll [x9.1 == x13.1, x9.2 == x13.2])) with hc15 | hc15
      · have h := h.1 hc15
        refine Go.condT (btT rfl hc15) ?_
        refine Go.seq ?_
        refine Go.region rfl ?_
        refine GoOps.q (v := .bool false) rfl rfl (by decide) (q_assign rfl) ?_
        refine GoOps.nil ?_
        exact Go.ret ⟨.inl rfl, _, _, DOk.nil, (resOk1 Try.results20 rfl), ⟨_, rfl, h⟩⟩
      · have h := h.2 hc15
        refine Go.condF (btF rfl hc15) ?_
        refine Go.skip ?_
        refine Go.inBlock ?_
        refine Go.region rfl ?_
        refine GoOps.q (v := .int .i64 s2) rfl rfl (by decide) (q_move e4_5) ?_
        refine GoOps.q (v := .int .i64 (IntKind.wrap .i64 (s2 + 1))) rfl rfl (by decide) (q_add rfl rfl) ?_
        refine GoOps.q (v := .int .i64 (IntKind.wrap .i64 (s2 + 1))) rfl rfl (by decide) (q_assign rfl) ?_
        refine GoOps.nil ?_
        exact hagain3 _ _ _ h ⟨e4_0, e4_1, rfl⟩
    · have h := h.2 hc6
      refine Go.condF (btF rfl hc6) ?_
      refine Go.exit rfl ?_
      refine Go.seq ?_
      refine Go.region rfl ?_
      refine GoOps.q (v := .bool true) rfl rfl (by decide) (q_assign rfl) ?_
      refine GoOps.nil ?_
      exact Go.ret ⟨.inl rfl, _, _, DOk.nil, (resOk1 Try.results20 rfl), ⟨_, rfl, h⟩⟩

/-- keelson.keelsonlaw16.ImageMoves -/
def keelsonlaw16_ImageMoves (p0 : Int) (p1 : Sl) (p2 : Int) (p3 : Bool) (p4 : Int) (H : PH) (Q : Bool → PH → Prop) : Prop :=
  mJoin (fun (s2 : Bool) (H4 : PH) =>
  mJoin (fun (s7 : Bool) (H9 : PH) =>
  mIf s7
  (keelsonlaw16_awake H9 fun y13 H12 =>
  Q y13 H12)
  (image_New p0 H9 fun y15 H14 =>
  mIf (Option.isNone y15)
  (Q false H14)
  (mLoop (fun (s17 : Int) (H20 : PH) (again18 : Int → PH → Prop) =>
  mIf (decide (s17 < (p1.len : Int)))
  (mJoin (fun (s22 : Unit) (H24 : PH) =>
  again18 (IntKind.wrap .i64 (s17 + 1)) H24)
  fun j23 =>
  mIdx p1 3 s17 fun a26 =>
  mLd (.int .i64) H20 (a26.add 1) fun x28 =>
  keelsonalike_Round x28 p0 H20 fun y31 H30 =>
  mIdx p1 3 s17 fun a32 =>
  mLd (.int .i64) H30 (a32.add 0) fun x34 =>
  mIf (x34 == 1)
  (image_Image_Write y15 y31 (IntKind.wrap .i64 (s17 + 1)) H30 fun y38 y39 H37 =>
  j23 () H37)
  (mIf (x34 == 2)
  (image_Image_Trim y15 y31 1 H30 fun y42 y43 H41 =>
  j23 () H41)
  (mIf (x34 == 3)
  (image_Image_Commit y15 H30 fun y46 H45 =>
  j23 () H45)
  (mIf (x34 == 5)
  (image_Image_Put y15 y31 (IntKind.wrap .i64 (s17 + 1)) H30 fun y49 y50 H48 =>
  j23 () H48)
  (j23 () H30)))))
  (keelsonalike_Round p2 p0 H20 fun y52 H51 =>
  keelsonlaw16_refs y15 300 H51 fun y54 H53 =>
  keelsonalike_Round p4 500 H53 fun y56 H55 =>
  image_Image_Move y15 y52 (IntKind.wrap .i64 (500 + y56)) 2000 H55 fun y58 H57 =>
  mJoin (fun (s60 : Bool) (H62 : PH) =>
  mIf s60
  (Q false H62)
  (image_Image_Ref y15 y52 H62 fun y66 y67 H65 =>
  mJoin (fun (s68 : Int) (H70 : PH) =>
  mIf (s68 == 0)
  (image_Image_Move y15 y52 0 2000 H70 fun y74 H73 =>
  mJoin (fun (s76 : Bool) (H78 : PH) =>
  mJoin (fun (s81 : Bool) (H83 : PH) =>
  Q s81 H83)
  fun j82 =>
  mIf s76
  (keelsonlaw16_awake H78 fun y86 H85 =>
  j82 y86 H85)
  (j82 false H78))
  fun j77 =>
  mIf (!y74)
  (keelsonlaw16_refs y15 300 H73 fun y88 H87 =>
  keelsonlaw16_like y88 y54 H87 fun y90 H89 =>
  j77 y90 H89)
  (j77 false H73))
  (image_Image_Move y15 y52 s68 2000 H70 fun y92 H91 =>
  mIf (!y92)
  (Q false H91)
  (keelsonlaw16_refs y15 300 H91 fun y95 H94 =>
  mIf ((y95.len : Int) != (y54.len : Int))
  (Q false H94)
  (mLoop (fun (s97 : Int) (H100 : PH) (again98 : Int → PH → Prop) =>
  mIf (decide (s97 < (y95.len : Int)))
  (mIdx y54 2 s97 fun a102 =>
  mLd (.int .i64) H100 (a102.add 0) fun x104 =>
  mJoin (fun (s107 : Bool) (H109 : PH) =>
  mJoin (fun (s111 : Unit) (H113 : PH) =>
  mIdx y95 2 s97 fun a115 =>
  mLdR (fun (x : (Int × Int)) => [.int .i64 x.1, .int .i64 x.2]) H113 a115 2 fun x117 =>
  mIdx y54 2 s97 fun a119 =>
  mLdR (fun (x : (Int × Int)) => [.int .i64 x.1, .int .i64 x.2]) H113 a119 2 fun x121 =>
  mIf (!(andAll [x117.1 == x121.1, x117.2 == x121.2]))
  (Q false H113)
  (again98 (IntKind.wrap .i64 (s97 + 1)) H113))
  fun j112 =>
  mIf s107
  (mIdx y54 2 s97 fun a125 =>
  mSt H109 (a125.add 1) ([.int .i64 2000]) fun H127 =>
  j112 () H127)
  (j112 () H109))
  fun j108 =>
  mIf (x104 == y52)
  (mIdx y54 2 s97 fun a129 =>
  mLd (.int .i64) H100 (a129.add 1) fun x131 =>
  j108 (x131 == s68) H100)
  (j108 false H100))
  (keelsonlaw16_awake H100 fun y134 H133 =>
  Q y134 H133))
  0 H94))))
  fun j69 =>
  mIf p3
  (image_Image_Look y15 y52 H65 fun y137 y138 H136 =>
  j69 y137 H136)
  (j69 y66 H65)))
  fun j61 =>
  mIf y58
  (j61 true H57)
  (keelsonlaw16_refs y15 300 H57 fun y140 H139 =>
  keelsonlaw16_like y140 y54 H139 fun y142 H141 =>
  j61 (!y142) H141)))
  0 H14)))
  fun j8 =>
  mIf s2
  (j8 true H4)
  (j8 (decide (40 < (p1.len : Int))) H4))
  fun j3 =>
  mIf (decide (p0 < 1))
  (j3 true H)
  (j3 (decide (64 < p0)) H)

set_option maxRecDepth 20000 in
set_option maxHeartbeats 1000000 in
theorem keelsonlaw16_ImageMoves_s (p0 : Int) (p1 : Sl) (p2 : Int) (p3 : Bool) (p4 : Int) (H : PH) (Q : Bool → PH → Prop) (h : keelsonlaw16_ImageMoves p0 p1 p2 p3 p4 H Q) :
    CallsH Try.prog 5 #[.int .i64 p0, Sl.v p1, .int .i64 p2, .bool p3, .int .i64 p4] H (fun v H' => ∃ (r0 : Bool), v = .bool r0 ∧ Q r0 H') := by
  unfold keelsonlaw16_ImageMoves at h
  refine callsH_of_go Try.func5 rfl Try.ntmps5 (Nat.le_of_ble_eq_true rfl) ?_
  refine Go.seq ?_
  refine Go.region rfl ?_
  refine GoOps.q (v := .bool false) rfl rfl (by decide) (q_assign rfl) ?_
  refine GoOps.nil ?_
  refine Go.seq ?_
  refine Go.seq ?_
  refine Go.region rfl ?_
  refine GoOps.q (v := .int .i64 p0) rfl rfl (by decide) (q_move rfl) ?_
  refine GoOps.q (v := .bool (decide (p0 < 1))) rfl rfl (by decide) (q_lss rfl rfl) ?_
  refine GoOps.q (v := .bool (decide (p0 < 1))) rfl rfl (by decide) (q_move rfl) ?_
  refine join_ops 3 (fun ρ (s2 : Bool) => ρ 0 = .int .i64 p0 ∧ ρ 1 = Sl.v p1 ∧ ρ 2 = .int .i64 p2 ∧ ρ 3 = .bool p3 ∧ ρ 4 = .int .i64 p4 ∧ ρ 25 = .bool s2) h ?_ ?_ <;> clear h
  · intro s2 H4 ρ h hE
    obtain ⟨e5_0, e5_1, e5_2, e5_3, e5_4, e5_25⟩ := hE
    refine GoOps.q (v := .bool s2) rfl rfl (by decide) (q_move e5_25) ?_
    refine join_ops 4 (fun ρ (s7 : Bool) => ρ 0 = .int .i64 p0 ∧ ρ 1 = Sl.v p1 ∧ ρ 2 = .int .i64 p2 ∧ ρ 3 = .bool p3 ∧ ρ 4 = .int .i64 p4 ∧ ρ 30 = .bool s7) h ?_ ?_ <;> clear h
    · intro s7 H9 ρ h hE
      obtain ⟨e10_0, e10_1, e10_2, e10_3, e10_4, e10_30⟩ := hE
      refine GoOps.nil ?_
      rcases bor s7 with hc11 | hc11
      · have h := h.1 hc11
        refine Go.condT (btT e10_30 hc11) ?_
        refine Go.seq ?_
        refine Go.region rfl ?_
        refine call_dst rfl (by decide) body6 (keelsonlaw16_awake_s _ _ h) rfl ?_
        rintro _ H12 ⟨y13, rfl, h⟩
        refine GoOps.q (v := .bool y13) rfl rfl (by decide) (q_assign rfl) ?_
        refine GoOps.nil ?_
        exact Go.ret ⟨.inl rfl, _, _, DOk.nil, (resOk1 Try.results5 rfl), ⟨_, rfl, h⟩⟩
      · have h := h.2 hc11
        refine Go.condF (btF e10_30 hc11) ?_
        refine Go.skip ?_
        refine Go.seq ?_
        refine Go.region rfl ?_
        refine GoOps.q (v := .int .i64 p0) rfl rfl (by decide) (q_move e10_0) ?_
        refine call_dst rfl (by decide) body7 (image_New_s _ _ _ h) rfl ?_
        rintro _ H14 ⟨y15, rfl, h⟩
        refine GoOps.q (v := .pointer y15) rfl rfl (by decide) (q_assign rfl) ?_
        refine GoOps.nil ?_
        refine Go.seq ?_
        refine Go.seq ?_
        refine Go.region rfl ?_
        refine GoOps.q (v := .pointer y15) rfl rfl (by decide) (q_move rfl) ?_
        refine GoOps.q (v := .bool (Option.isNone y15)) rfl rfl (by decide) (q_eqlPn Try.underlying24 rfl rfl) ?_
        refine GoOps.nil ?_
        rcases bor (Option.isNone y15) with hc16 | hc16
        · have h := h.1 hc16
          refine Go.condT (btT rfl hc16) ?_
          refine Go.seq ?_
          refine Go.region rfl ?_
          refine GoOps.q (v := .bool false) rfl rfl (by decide) (q_assign rfl) ?_
          refine GoOps.nil ?_
          exact Go.ret ⟨.inl rfl, _, _, DOk.nil, (resOk1 Try.results5 rfl), ⟨_, rfl, h⟩⟩
        · have h := h.2 hc16
          refine Go.condF (btF rfl hc16) ?_
          refine Go.skip ?_
          refine Go.seq ?_
          refine Go.seq ?_
          refine Go.region rfl ?_
          refine GoOps.q (v := .int .i64 0) rfl rfl (by decide) (q_assign rfl) ?_
          refine GoOps.nil ?_
          refine Go.block ?_
          refine loop_go (fun ρ (s17 : Int) => ρ 0 = .int .i64 p0 ∧ ρ 1 = Sl.v p1 ∧ ρ 2 = .int .i64 p2 ∧ ρ 3 = .bool p3 ∧ ρ 4 = .int .i64 p4 ∧ ρ 11 = .pointer y15 ∧ ρ 12 = .int .i64 s17) h ⟨e10_0, e10_1, e10_2, e10_3, e10_4, rfl, rfl⟩ ?_
          clear h
          intro ρ s17 H20 again18 hE h hagain18
          obtain ⟨e19_0, e19_1, e19_2, e19_3, e19_4, e19_11, e19_12⟩ := hE
          refine Go.seq ?_
          refine Go.seq ?_
          refine Go.region rfl ?_
          refine GoOps.q (v := .int .i64 s17) rfl rfl (by decide) (q_move e19_12) ?_
          refine GoOps.q (v := Sl.v p1) rfl rfl (by decide) (q_move e19_1) ?_
          refine GoOps.q (v := .int .i64 (p1.len : Int)) rfl rfl (by decide) (q_len Try.underlying22 rfl (ls1 rfl)) ?_
          refine GoOps.q (v := .bool (decide (s17 < (p1.len : Int)))) rfl rfl (by decide) (q_lss rfl rfl) ?_
          refine GoOps.nil ?_
          rcases bor (decide (s17 < (p1.len : Int))) with hc21 | hc21
          · have h := h.1 hc21
            refine Go.condT (btT rfl hc21) ?_
            refine Go.skip ?_
            refine Go.seq ?_
            refine join_go 1 (fun ρ (s22 : Unit) => ρ 0 = .int .i64 p0 ∧ ρ 1 = Sl.v p1 ∧ ρ 2 = .int .i64 p2 ∧ ρ 3 = .bool p3 ∧ ρ 4 = .int .i64 p4 ∧ ρ 11 = .pointer y15 ∧ ρ 12 = .int .i64 s17) h ?_ ?_ <;> clear h
            · intro s22 H24 ρ h hE
              obtain ⟨e25_0, e25_1, e25_2, e25_3, e25_4, e25_11, e25_12⟩ := hE
              refine Go.region rfl ?_
              refine GoOps.q (v := .int .i64 s17) rfl rfl (by decide) (q_move e25_12) ?_
              refine GoOps.q (v := .int .i64 (IntKind.wrap .i64 (s17 + 1))) rfl rfl (by decide) (q_add rfl rfl) ?_
              refine GoOps.q (v := .int .i64 (IntKind.wrap .i64 (s17 + 1))) rfl rfl (by decide) (q_assign rfl) ?_
              refine GoOps.nil ?_
              exact hagain18 _ _ _ h ⟨e25_0, e25_1, e25_2, e25_3, e25_4, e25_11, rfl⟩
            · intro j23 hj23 h
              refine Go.block ?_
              refine Go.seq ?_
              refine Go.region rfl ?_
              refine GoOps.q (v := Sl.v p1) rfl rfl (by decide) (q_move e19_1) ?_
              refine GoOps.q (v := .int .i64 s17) rfl rfl (by decide) (q_move e19_12) ?_
              obtain ⟨a26, ha27, h⟩ := h
              refine GoOps.q (v := .pointer (some a26)) rfl rfl (by decide) (q_idx slice22 ha27 rfl rfl) ?_
              refine GoOps.q (v := .pointer (some (a26.add 1))) rfl rfl (by decide) (q_fieldAddr foff29_1 rfl) ?_
              obtain ⟨x28, hx29, h⟩ := h
              refine GoOps.q (v := .int .i64 x28) rfl rfl (by decide) (q_load scalar3 rfl hx29) ?_
              refine GoOps.q (v := .int .i64 p0) rfl rfl (by decide) (q_move e19_0) ?_
              refine call_dst rfl (by decide) body8 (keelsonalike_Round_s _ _ _ _ h) rfl ?_
              rintro _ H30 ⟨y31, rfl, h⟩
              refine GoOps.q (v := .int .i64 y31) rfl rfl (by decide) (q_assign rfl) ?_
              refine GoOps.nil ?_
              refine Go.seq ?_
              refine Go.region rfl ?_
              refine GoOps.q (v := Sl.v p1) rfl rfl (by decide) (q_move e19_1) ?_
              refine GoOps.q (v := .int .i64 s17) rfl rfl (by decide) (q_move e19_12) ?_
              obtain ⟨a32, ha33, h⟩ := h
              refine GoOps.q (v := .pointer (some a32)) rfl rfl (by decide) (q_idx slice22 ha33 rfl rfl) ?_
              refine GoOps.q (v := .pointer (some (a32.add 0))) rfl rfl (by decide) (q_fieldAddr foff29_0 rfl) ?_
              obtain ⟨x34, hx35, h⟩ := h
              refine GoOps.q (v := .int .i64 x34) rfl rfl (by decide) (q_load scalar3 rfl hx35) ?_
              refine GoOps.nil ?_
              refine Go.block ?_
              refine Go.seq ?_
              refine Go.region rfl ?_
              refine GoOps.q (v := .bool (x34 == 1)) rfl rfl (by decide) (q_eql rfl rfl) ?_
              refine GoOps.q (v := .bool (x34 == 1)) rfl rfl (by decide) (q_assign rfl) ?_
              refine GoOps.nil ?_
              rcases bor (x34 == 1) with hc36 | hc36
              · have h := h.1 hc36
                refine Go.condT (btT rfl hc36) ?_
                refine Go.region rfl ?_
                refine GoOps.q (v := .pointer y15) rfl rfl (by decide) (q_move e19_11) ?_
                refine GoOps.q (v := .int .i64 y31) rfl rfl (by decide) (q_move rfl) ?_
                refine GoOps.q (v := .int .i64 s17) rfl rfl (by decide) (q_move e19_12) ?_
                refine GoOps.q (v := .int .i64 (IntKind.wrap .i64 (s17 + 1))) rfl rfl (by decide) (q_add rfl rfl) ?_
                refine call_dst rfl (by decide) body9 (image_Image_Write_s _ _ _ _ _ h) rfl ?_
                rintro _ H37 ⟨y38, y39, rfl, h⟩
                refine GoOps.nil ?_
                refine Go.inBlock ?_
                refine Go.inBlock ?_
                exact hj23 _ _ _ h ⟨e19_0, e19_1, e19_2, e19_3, e19_4, e19_11, e19_12⟩
              · have h := h.2 hc36
                refine Go.condF (btF rfl hc36) ?_
                refine Go.seq ?_
                refine Go.region rfl ?_
                refine GoOps.q (v := .bool (x34 == 2)) rfl rfl (by decide) (q_eql rfl rfl) ?_
                refine GoOps.q (v := .bool (x34 == 2)) rfl rfl (by decide) (q_assign rfl) ?_
                refine GoOps.nil ?_
                rcases bor (x34 == 2) with hc40 | hc40
                · have h := h.1 hc40
                  refine Go.condT (btT rfl hc40) ?_
                  refine Go.region rfl ?_
                  refine GoOps.q (v := .pointer y15) rfl rfl (by decide) (q_move e19_11) ?_
                  refine GoOps.q (v := .int .i64 y31) rfl rfl (by decide) (q_move rfl) ?_
                  refine call_dst rfl (by decide) body10 (image_Image_Trim_s _ _ _ _ _ h) rfl ?_
                  rintro _ H41 ⟨y42, y43, rfl, h⟩
                  refine GoOps.nil ?_
                  refine Go.inBlock ?_
                  refine Go.inBlock ?_
                  exact hj23 _ _ _ h ⟨e19_0, e19_1, e19_2, e19_3, e19_4, e19_11, e19_12⟩
                · have h := h.2 hc40
                  refine Go.condF (btF rfl hc40) ?_
                  refine Go.seq ?_
                  refine Go.region rfl ?_
                  refine GoOps.q (v := .bool (x34 == 3)) rfl rfl (by decide) (q_eql rfl rfl) ?_
                  refine GoOps.q (v := .bool (x34 == 3)) rfl rfl (by decide) (q_assign rfl) ?_
                  refine GoOps.nil ?_
                  rcases bor (x34 == 3) with hc44 | hc44
                  · have h := h.1 hc44
                    refine Go.condT (btT rfl hc44) ?_
                    refine Go.region rfl ?_
                    refine GoOps.q (v := .pointer y15) rfl rfl (by decide) (q_move e19_11) ?_
                    refine call_dst rfl (by decide) body11 (image_Image_Commit_s _ _ _ h) rfl ?_
                    rintro _ H45 ⟨y46, rfl, h⟩
                    refine GoOps.nil ?_
                    refine Go.inBlock ?_
                    refine Go.inBlock ?_
                    exact hj23 _ _ _ h ⟨e19_0, e19_1, e19_2, e19_3, e19_4, e19_11, e19_12⟩
                  · have h := h.2 hc44
                    refine Go.condF (btF rfl hc44) ?_
                    refine Go.seq ?_
                    refine Go.region rfl ?_
                    refine GoOps.q (v := .bool (x34 == 5)) rfl rfl (by decide) (q_eql rfl rfl) ?_
                    refine GoOps.q (v := .bool (x34 == 5)) rfl rfl (by decide) (q_assign rfl) ?_
                    refine GoOps.nil ?_
                    rcases bor (x34 == 5) with hc47 | hc47
                    · have h := h.1 hc47
                      refine Go.condT (btT rfl hc47) ?_
                      refine Go.region rfl ?_
                      refine GoOps.q (v := .pointer y15) rfl rfl (by decide) (q_move e19_11) ?_
                      refine GoOps.q (v := .int .i64 y31) rfl rfl (by decide) (q_move rfl) ?_
                      refine GoOps.q (v := .int .i64 s17) rfl rfl (by decide) (q_move e19_12) ?_
                      refine GoOps.q (v := .int .i64 (IntKind.wrap .i64 (s17 + 1))) rfl rfl (by decide) (q_add rfl rfl) ?_
                      refine call_dst rfl (by decide) body13 (image_Image_Put_s _ _ _ _ _ h) rfl ?_
                      rintro _ H48 ⟨y49, y50, rfl, h⟩
                      refine GoOps.nil ?_
                      refine Go.inBlock ?_
                      refine Go.inBlock ?_
                      exact hj23 _ _ _ h ⟨e19_0, e19_1, e19_2, e19_3, e19_4, e19_11, e19_12⟩
                    · have h := h.2 hc47
                      refine Go.condF (btF rfl hc47) ?_
                      refine Go.skip ?_
                      refine Go.inBlock ?_
                      refine Go.inBlock ?_
                      exact hj23 _ _ _ h ⟨e19_0, e19_1, e19_2, e19_3, e19_4, e19_11, e19_12⟩
          · have h := h.2 hc21
            refine Go.condF (btF rfl hc21) ?_
            refine Go.exit rfl ?_
            refine Go.seq ?_
            refine Go.region rfl ?_
            refine GoOps.q (v := .int .i64 p2) rfl rfl (by decide) (q_move e19_2) ?_
            refine GoOps.q (v := .int .i64 p0) rfl rfl (by decide) (q_move e19_0) ?_
            refine call_dst rfl (by decide) body8 (keelsonalike_Round_s _ _ _ _ h) rfl ?_
            rintro _ H51 ⟨y52, rfl, h⟩
            refine GoOps.q (v := .int .i64 y52) rfl rfl (by decide) (q_assign rfl) ?_
            refine GoOps.nil ?_
            refine Go.seq ?_
            refine Go.region rfl ?_
            refine GoOps.q (v := .pointer y15) rfl rfl (by decide) (q_move e19_11) ?_
            refine call_dst rfl (by decide) body18 (keelsonlaw16_refs_s _ _ _ _ h) rfl ?_
            rintro _ H53 ⟨y54, rfl, h⟩
            refine GoOps.q (v := Sl.v y54) rfl rfl (by decide) (q_assign rfl) ?_
            refine GoOps.nil ?_
            refine Go.seq ?_
            refine Go.seq ?_
            refine Go.region rfl ?_
            refine GoOps.q (v := .pointer y15) rfl rfl (by decide) (q_move e19_11) ?_
            refine GoOps.q (v := .int .i64 y52) rfl rfl (by decide) (q_move rfl) ?_
            refine GoOps.q (v := .int .i64 p4) rfl rfl (by decide) (q_move e19_4) ?_
            refine call_dst rfl (by decide) body8 (keelsonalike_Round_s _ _ _ _ h) rfl ?_
            rintro _ H55 ⟨y56, rfl, h⟩
            refine GoOps.q (v := .int .i64 (IntKind.wrap .i64 (500 + y56))) rfl rfl (by decide) (q_add rfl rfl) ?_
            refine call_dst rfl (by decide) body19 (image_Image_Move_s _ _ _ _ _ _ h) rfl ?_
            rintro _ H57 ⟨y58, rfl, h⟩
            refine GoOps.q (v := .bool y58) rfl rfl (by decide) (q_move rfl) ?_
            refine join_ops 6 (fun ρ (s60 : Bool) => ρ 3 = .bool p3 ∧ ρ 11 = .pointer y15 ∧ ρ 14 = .int .i64 y52 ∧ ρ 15 = Sl.v y54 ∧ ρ 94 = .bool s60) h ?_ ?_ <;> clear h
            · intro s60 H62 ρ h hE
              obtain ⟨e63_3, e63_11, e63_14, e63_15, e63_94⟩ := hE
              refine GoOps.nil ?_
              rcases bor s60 with hc64 | hc64
              · have h := h.1 hc64
                refine Go.condT (btT e63_94 hc64) ?_
                refine Go.seq ?_
                refine Go.region rfl ?_
                refine GoOps.q (v := .bool false) rfl rfl (by decide) (q_assign rfl) ?_
                refine GoOps.nil ?_
                exact Go.ret ⟨.inl rfl, _, _, DOk.nil, (resOk1 Try.results5 rfl), ⟨_, rfl, h⟩⟩
              · have h := h.2 hc64
                refine Go.condF (btF e63_94 hc64) ?_
                refine Go.skip ?_
                refine Go.seq ?_
                refine Go.region rfl ?_
                refine GoOps.q (v := .pointer y15) rfl rfl (by decide) (q_move e63_11) ?_
                refine GoOps.q (v := .int .i64 y52) rfl rfl (by decide) (q_move e63_14) ?_
                refine call_dst rfl (by decide) body15 (image_Image_Ref_s _ _ _ _ h) rfl ?_
                rintro _ H65 ⟨y66, y67, rfl, h⟩
                refine GoOps.q (v := .tuple #[.int .i64 y66, .bool y67]) rfl rfl (by decide) (q_move rfl) ?_
                refine GoOps.q (v := .int .i64 y66) rfl rfl (by decide) (q_extract rfl rfl) ?_
                refine GoOps.q (v := .bool y67) rfl rfl (by decide) (q_extract rfl rfl) ?_
                refine GoOps.q (v := .int .i64 y66) rfl rfl (by decide) (q_assign rfl) ?_
                refine GoOps.q (v := .bool y67) rfl rfl (by decide) (q_assign rfl) ?_
                refine GoOps.nil ?_
                refine Go.seq ?_
                refine Go.seq ?_
                refine Go.region rfl ?_
                refine GoOps.q (v := .bool p3) rfl rfl (by decide) (q_move e63_3) ?_
                refine GoOps.nil ?_
                refine join_go 1 (fun ρ (s68 : Int) => ρ 11 = .pointer y15 ∧ ρ 14 = .int .i64 y52 ∧ ρ 15 = Sl.v y54 ∧ ρ 16 = .int .i64 s68) h ?_ ?_ <;> clear h
                · intro s68 H70 ρ h hE
                  obtain ⟨e71_11, e71_14, e71_15, e71_16⟩ := hE
                  refine Go.seq ?_
                  refine Go.seq ?_
                  refine Go.region rfl ?_
                  refine GoOps.q (v := .int .i64 s68) rfl rfl (by decide) (q_move e71_16) ?_
                  refine GoOps.q (v := .bool (s68 == 0)) rfl rfl (by decide) (q_eql rfl rfl) ?_
                  refine GoOps.nil ?_
                  rcases bor (s68 == 0) with hc72 | hc72
                  · have h := h.1 hc72
                    refine Go.condT (btT rfl hc72) ?_
                    refine Go.seq ?_
                    refine Go.region rfl ?_
                    refine GoOps.q (v := .pointer y15) rfl rfl (by decide) (q_move e71_11) ?_
                    refine GoOps.q (v := .int .i64 y52) rfl rfl (by decide) (q_move e71_14) ?_
                    refine call_dst rfl (by decide) body19 (image_Image_Move_s _ _ _ _ _ _ h) rfl ?_
                    rintro _ H73 ⟨y74, rfl, h⟩
                    refine GoOps.q (v := .bool (!y74)) rfl rfl (by decide) (q_not rfl) ?_
                    refine GoOps.q (v := .bool (!y74)) rfl rfl (by decide) (q_move rfl) ?_
                    refine join_ops 5 (fun ρ (s76 : Bool) => ρ 119 = .bool s76) h ?_ ?_ <;> clear h
                    · intro s76 H78 ρ h hE
                      have e79_119 := hE
                      refine GoOps.q (v := .bool s76) rfl rfl (by decide) (q_move e79_119) ?_
                      refine join_ops 2 (fun ρ (s81 : Bool) => ρ 122 = .bool s81) h ?_ ?_ <;> clear h
                      · intro s81 H83 ρ h hE
                        have e84_122 := hE
                        refine GoOps.q (v := .bool s81) rfl rfl (by decide) (q_assign e84_122) ?_
                        refine GoOps.nil ?_
                        exact Go.ret ⟨.inl rfl, _, _, DOk.nil, (resOk1 Try.results5 rfl), ⟨_, rfl, h⟩⟩
                      · intro j82 hj82 h
                        rcases bor s76 with hc80 | hc80
                        · have h := h.1 hc80
                          refine call_dst (want_yes rfl rfl rfl hc80) (by decide) body6 (keelsonlaw16_awake_s _ _ h) rfl ?_
                          rintro _ H85 ⟨y86, rfl, h⟩
                          refine GoOps.q (v := .bool y86) rfl rfl (by decide) (q_pickT (btT rfl hc80) rfl) ?_
                          exact hj82 y86 _ _ h (by exact rfl)
                        · have h := h.2 hc80
                          refine no_dst (want_no rfl rfl rfl hc80) rfl (by decide) ?_
                          refine GoOps.q (v := .bool false) rfl rfl (by decide) (q_pickF (btF rfl hc80) rfl) ?_
                          exact hj82 false _ _ h (by exact rfl)
                    · intro j77 hj77 h
                      rcases bor (!y74) with hc75 | hc75
                      · have h := h.1 hc75
                        refine GoOps.q (v := .pointer y15) (want_yes rfl rfl rfl hc75) rfl (by decide) (q_move e71_11) ?_
                        refine call_dst (want_yes rfl rfl rfl hc75) (by decide) body18 (keelsonlaw16_refs_s _ _ _ _ h) rfl ?_
                        rintro _ H87 ⟨y88, rfl, h⟩
                        refine GoOps.q (v := Sl.v y54) (want_yes rfl rfl rfl hc75) rfl (by decide) (q_move e71_15) ?_
                        refine call_dst (want_yes rfl rfl rfl hc75) (by decide) body20 (keelsonlaw16_like_s _ _ _ _ h) rfl ?_
                        rintro _ H89 ⟨y90, rfl, h⟩
                        refine GoOps.q (v := .bool y90) rfl rfl (by decide) (q_pickT (btT rfl hc75) rfl) ?_
                        exact hj77 y90 _ _ h (by exact rfl)
                      · have h := h.2 hc75
                        refine no_dst (want_no rfl rfl rfl hc75) rfl (by decide) ?_
                        refine no_dst (want_no rfl rfl rfl hc75) rfl (by decide) ?_
                        refine no_dst (want_no rfl rfl rfl hc75) rfl (by decide) ?_
                        refine no_dst (want_no rfl rfl rfl hc75) rfl (by decide) ?_
                        refine GoOps.q (v := .bool false) rfl rfl (by decide) (q_pickF (btF rfl hc75) rfl) ?_
                        exact hj77 false _ _ h (by exact rfl)
                  · have h := h.2 hc72
                    refine Go.condF (btF rfl hc72) ?_
                    refine Go.skip ?_
                    refine Go.seq ?_
                    refine Go.seq ?_
                    refine Go.region rfl ?_
                    refine GoOps.q (v := .pointer y15) rfl rfl (by decide) (q_move e71_11) ?_
                    refine GoOps.q (v := .int .i64 y52) rfl rfl (by decide) (q_move e71_14) ?_
                    refine GoOps.q (v := .int .i64 s68) rfl rfl (by decide) (q_move e71_16) ?_
                    refine call_dst rfl (by decide) body19 (image_Image_Move_s _ _ _ _ _ _ h) rfl ?_
                    rintro _ H91 ⟨y92, rfl, h⟩
                    refine GoOps.q (v := .bool (!y92)) rfl rfl (by decide) (q_not rfl) ?_
                    refine GoOps.nil ?_
                    rcases bor (!y92) with hc93 | hc93
                    · have h := h.1 hc93
                      refine Go.condT (btT rfl hc93) ?_
                      refine Go.seq ?_
                      refine Go.region rfl ?_
                      refine GoOps.q (v := .bool false) rfl rfl (by decide) (q_assign rfl) ?_
                      refine GoOps.nil ?_
                      exact Go.ret ⟨.inl rfl, _, _, DOk.nil, (resOk1 Try.results5 rfl), ⟨_, rfl, h⟩⟩
                    · have h := h.2 hc93
                      refine Go.condF (btF rfl hc93) ?_
                      refine Go.skip ?_
                      refine Go.seq ?_
                      refine Go.region rfl ?_
                      refine GoOps.q (v := .pointer y15) rfl rfl (by decide) (q_move e71_11) ?_
                      refine call_dst rfl (by decide) body18 (keelsonlaw16_refs_s _ _ _ _ h) rfl ?_
                      rintro _ H94 ⟨y95, rfl, h⟩
                      refine GoOps.q (v := Sl.v y95) rfl rfl (by decide) (q_assign rfl) ?_
                      refine GoOps.nil ?_
                      refine Go.seq ?_
                      refine Go.seq ?_
                      refine Go.region rfl ?_
                      refine GoOps.q (v := Sl.v y95) rfl rfl (by decide) (q_move rfl) ?_
                      refine GoOps.q (v := .int .i64 (y95.len : Int)) rfl rfl (by decide) (q_len Try.underlying39 rfl (ls1 rfl)) ?_
                      refine GoOps.q (v := Sl.v y54) rfl rfl (by decide) (q_move e71_15) ?_
                      refine GoOps.q (v := .int .i64 (y54.len : Int)) rfl rfl (by decide) (q_len Try.underlying39 rfl (ls1 rfl)) ?_
                      refine GoOps.q (v := .bool ((y95.len : Int) != (y54.len : Int))) rfl rfl (by decide) (q_neq rfl rfl) ?_
                      refine GoOps.nil ?_
                      rcases bor ((y95.len : Int) != (y54.len : Int)) with hc96 | hc96
                      · have h := h.1 hc96
                        refine Go.condT (btT rfl hc96) ?_
                        refine Go.seq ?_
                        refine Go.region rfl ?_
                        refine GoOps.q (v := .bool false) rfl rfl (by decide) (q_assign rfl) ?_
                        refine GoOps.nil ?_
                        exact Go.ret ⟨.inl rfl, _, _, DOk.nil, (resOk1 Try.results5 rfl), ⟨_, rfl, h⟩⟩
                      · have h := h.2 hc96
                        refine Go.condF (btF rfl hc96) ?_
                        refine Go.skip ?_
                        refine Go.seq ?_
                        refine Go.seq ?_
                        refine Go.region rfl ?_
                        refine GoOps.q (v := .int .i64 0) rfl rfl (by decide) (q_assign rfl) ?_
                        refine GoOps.nil ?_
                        refine Go.block ?_
                        refine loop_go (fun ρ (s97 : Int) => ρ 14 = .int .i64 y52 ∧ ρ 15 = Sl.v y54 ∧ ρ 16 = .int .i64 s68 ∧ ρ 18 = Sl.v y95 ∧ ρ 19 = .int .i64 s97) h ⟨e71_14, e71_15, e71_16, rfl, rfl⟩ ?_
                        clear h
                        intro ρ s97 H100 again98 hE h hagain98
                        obtain ⟨e99_14, e99_15, e99_16, e99_18, e99_19⟩ := hE
                        refine Go.seq ?_
                        refine Go.seq ?_
                        refine Go.region rfl ?_
                        refine GoOps.q (v := .int .i64 s97) rfl rfl (by decide) (q_move e99_19) ?_
                        refine GoOps.q (v := Sl.v y95) rfl rfl (by decide) (q_move e99_18) ?_
                        refine GoOps.q (v := .int .i64 (y95.len : Int)) rfl rfl (by decide) (q_len Try.underlying39 rfl (ls1 rfl)) ?_
                        refine GoOps.q (v := .bool (decide (s97 < (y95.len : Int)))) rfl rfl (by decide) (q_lss rfl rfl) ?_
                        refine GoOps.nil ?_
                        rcases bor (decide (s97 < (y95.len : Int))) with hc101 | hc101
                        · have h := h.1 hc101
                          refine Go.condT (btT rfl hc101) ?_
                          refine Go.skip ?_
                          refine Go.seq ?_
                          refine Go.block ?_
                          refine Go.seq ?_
                          refine Go.seq ?_
                          refine Go.region rfl ?_
                          refine GoOps.q (v := Sl.v y54) rfl rfl (by decide) (q_move e99_15) ?_
                          refine GoOps.q (v := .int .i64 s97) rfl rfl (by decide) (q_move e99_19) ?_
                          obtain ⟨a102, ha103, h⟩ := h
                          refine GoOps.q (v := .pointer (some a102)) rfl rfl (by decide) (q_idx slice39 ha103 rfl rfl) ?_
                          refine GoOps.q (v := .pointer (some (a102.add 0))) rfl rfl (by decide) (q_fieldAddr foff42_0 rfl) ?_
                          obtain ⟨x104, hx105, h⟩ := h
                          refine GoOps.q (v := .int .i64 x104) rfl rfl (by decide) (q_load scalar3 rfl hx105) ?_
                          refine GoOps.q (v := .int .i64 y52) rfl rfl (by decide) (q_move e99_14) ?_
                          refine GoOps.q (v := .bool (x104 == y52)) rfl rfl (by decide) (q_eql rfl rfl) ?_
                          refine GoOps.q (v := .bool (x104 == y52)) rfl rfl (by decide) (q_move rfl) ?_
                          refine join_ops 8 (fun ρ (s107 : Bool) => ρ 14 = .int .i64 y52 ∧ ρ 15 = Sl.v y54 ∧ ρ 16 = .int .i64 s68 ∧ ρ 18 = Sl.v y95 ∧ ρ 19 = .int .i64 s97 ∧ ρ 156 = .bool s107) h ?_ ?_ <;> clear h
                          · intro s107 H109 ρ h hE
                            obtain ⟨e110_14, e110_15, e110_16, e110_18, e110_19, e110_156⟩ := hE
                            refine GoOps.nil ?_
                            refine join_go 1 (fun ρ (s111 : Unit) => ρ 14 = .int .i64 y52 ∧ ρ 15 = Sl.v y54 ∧ ρ 16 = .int .i64 s68 ∧ ρ 18 = Sl.v y95 ∧ ρ 19 = .int .i64 s97) h ?_ ?_ <;> clear h
                            · intro s111 H113 ρ h hE
                              obtain ⟨e114_14, e114_15, e114_16, e114_18, e114_19⟩ := hE
                              refine Go.seq ?_
                              refine Go.draw mixed ?_
                              refine plan_pure (i := 0) (d := 161) (S2 := 1) (v := Sl.v y95) rfl (by decide +kernel) rfl (q_move e114_18) ?_
                              refine plan_pure (i := 1) (d := 162) (S2 := 3) (v := .int .i64 s97) rfl (by decide +kernel) rfl (q_move e114_19) ?_
                              obtain ⟨a115, ha116, h⟩ := h
                              refine plan_pure (i := 2) (d := 163) (S2 := 7) (v := .pointer (some a115)) rfl (by decide +kernel) rfl (q_idx slice39 ha116 rfl rfl) ?_
                              obtain ⟨x117, hx118, h⟩ := h
                              refine plan_load (i := 3) (d := 164) (S2 := 15) (v := .agg ([.int .i64 x117.1, .int .i64 x117.2] : List Value).toArray) rfl (by decide +kernel) rfl (q_loadA aggr42 rfl hx118) ?_
                              refine plan_pure (i := 4) (d := 165) (S2 := 31) (v := Sl.v y54) rfl (by decide +kernel) rfl (q_move e114_15) ?_
                              refine plan_pure (i := 5) (d := 166) (S2 := 63) (v := .int .i64 s97) rfl (by decide +kernel) rfl (q_move e114_19) ?_
                              obtain ⟨a119, ha120, h⟩ := h
                              refine plan_pure (i := 6) (d := 167) (S2 := 127) (v := .pointer (some a119)) rfl (by decide +kernel) rfl (q_idx slice39 ha120 rfl rfl) ?_
                              obtain ⟨x121, hx122, h⟩ := h
                              refine plan_load (i := 7) (d := 168) (S2 := 255) (v := .agg ([.int .i64 x121.1, .int .i64 x121.2] : List Value).toArray) rfl (by decide +kernel) rfl (q_loadA aggr42 rfl hx122) ?_
                              refine plan_pure (i := 8) (d := 169) (S2 := 511) (v := .bool (!(andAll [x117.1 == x121.1, x117.2 == x121.2]))) rfl (by decide +kernel) rfl (q_neqA eqg42 (eqis_struct Try.underlying42 held42 (.cons (by decide) (eqat_int Try.underlying3 rfl rfl) (.cons (by decide) (eqat_int Try.underlying3 rfl rfl) rfl))) rfl rfl) ?_
                              refine plan_done (by decide +kernel) ?_
                              rcases bor (!(andAll [x117.1 == x121.1, x117.2 == x121.2])) with hc123 | hc123
                              · have h := h.1 hc123
                                refine Go.condT (btT rfl hc123) ?_
                                refine Go.seq ?_
                                refine Go.region rfl ?_
                                refine GoOps.q (v := .bool false) rfl rfl (by decide) (q_assign rfl) ?_
                                refine GoOps.nil ?_
                                exact Go.ret ⟨.inl rfl, _, _, DOk.nil, (resOk1 Try.results5 rfl), ⟨_, rfl, h⟩⟩
                              · have h := h.2 hc123
                                refine Go.condF (btF rfl hc123) ?_
                                refine Go.skip ?_
                                refine Go.inBlock ?_
                                refine Go.region rfl ?_
                                refine GoOps.q (v := .int .i64 s97) rfl rfl (by decide) (q_move e114_19) ?_
                                refine GoOps.q (v := .int .i64 (IntKind.wrap .i64 (s97 + 1))) rfl rfl (by decide) (q_add rfl rfl) ?_
                                refine GoOps.q (v := .int .i64 (IntKind.wrap .i64 (s97 + 1))) rfl rfl (by decide) (q_assign rfl) ?_
                                refine GoOps.nil ?_
                                exact hagain98 _ _ _ h ⟨e114_14, e114_15, e114_16, e114_18, rfl⟩
                            · intro j112 hj112 h
                              rcases bor s107 with hc124 | hc124
                              · have h := h.1 hc124
                                refine Go.condT (btT e110_156 hc124) ?_
                                refine Go.region rfl ?_
                                refine GoOps.q (v := Sl.v y54) rfl rfl (by decide) (q_move e110_15) ?_
                                refine GoOps.q (v := .int .i64 s97) rfl rfl (by decide) (q_move e110_19) ?_
                                obtain ⟨a125, ha126, h⟩ := h
                                refine GoOps.q (v := .pointer (some a125)) rfl rfl (by decide) (q_idx slice39 ha126 rfl rfl) ?_
                                refine GoOps.q (v := .pointer (some (a125.add 1))) rfl rfl (by decide) (q_fieldAddr foff42_1 rfl) ?_
                                obtain ⟨q128b, q128o, q128c, q128e, hq128a, hq128b, hq128l, hq128v, h⟩ := h
                                refine op_none rfl rfl (do_store (vs := [.int .i64 2000]) size3 (pta rfl hq128a) rfl rfl rfl hq128v hq128b hq128l ?_) 
                                refine GoOps.nil ?_
                                exact hj112 _ _ _ h ⟨e110_14, e110_15, e110_16, e110_18, e110_19⟩
                              · have h := h.2 hc124
                                refine Go.condF (btF e110_156 hc124) ?_
                                refine Go.skip ?_
                                exact hj112 _ _ _ h ⟨e110_14, e110_15, e110_16, e110_18, e110_19⟩
                          · intro j108 hj108 h
                            rcases bor (x104 == y52) with hc106 | hc106
                            · have h := h.1 hc106
                              refine GoOps.q (v := Sl.v y54) (want_yes rfl rfl rfl hc106) rfl (by decide) (q_move e99_15) ?_
                              refine GoOps.q (v := .int .i64 s97) (want_yes rfl rfl rfl hc106) rfl (by decide) (q_move e99_19) ?_
                              obtain ⟨a129, ha130, h⟩ := h
                              refine GoOps.q (v := .pointer (some a129)) (want_yes rfl rfl rfl hc106) rfl (by decide) (q_idx slice39 ha130 rfl rfl) ?_
                              refine GoOps.q (v := .pointer (some (a129.add 1))) (want_yes rfl rfl rfl hc106) rfl (by decide) (q_fieldAddr foff42_1 rfl) ?_
                              obtain ⟨x131, hx132, h⟩ := h
                              refine GoOps.q (v := .int .i64 x131) (want_yes rfl rfl rfl hc106) rfl (by decide) (q_load scalar3 rfl hx132) ?_
                              refine GoOps.q (v := .int .i64 s68) (want_yes rfl rfl rfl hc106) rfl (by decide) (q_move e99_16) ?_
                              refine GoOps.q (v := .bool (x131 == s68)) (want_yes rfl rfl rfl hc106) rfl (by decide) (q_eql rfl rfl) ?_
                              refine GoOps.q (v := .bool (x131 == s68)) rfl rfl (by decide) (q_pickT (btT rfl hc106) rfl) ?_
                              exact hj108 (x131 == s68) _ _ h (by exact ⟨e99_14, e99_15, e99_16, e99_18, e99_19, rfl⟩)
                            · have h := h.2 hc106
                              refine no_dst (want_no rfl rfl rfl hc106) rfl (by decide) ?_
                              refine no_dst (want_no rfl rfl rfl hc106) rfl (by decide) ?_
                              refine no_dst (want_no rfl rfl rfl hc106) rfl (by decide) ?_
                              refine no_dst (want_no rfl rfl rfl hc106) rfl (by decide) ?_
                              refine no_dst (want_no rfl rfl rfl hc106) rfl (by decide) ?_
                              refine no_dst (want_no rfl rfl rfl hc106) rfl (by decide) ?_
                              refine no_dst (want_no rfl rfl rfl hc106) rfl (by decide) ?_
                              refine GoOps.q (v := .bool false) rfl rfl (by decide) (q_pickF (btF rfl hc106) rfl) ?_
                              exact hj108 false _ _ h (by exact ⟨e99_14, e99_15, e99_16, e99_18, e99_19, rfl⟩)
                        · have h := h.2 hc101
                          refine Go.condF (btF rfl hc101) ?_
                          refine Go.exit rfl ?_
                          refine Go.seq ?_
                          refine Go.region rfl ?_
                          refine call_dst rfl (by decide) body6 (keelsonlaw16_awake_s _ _ h) rfl ?_
                          rintro _ H133 ⟨y134, rfl, h⟩
                          refine GoOps.q (v := .bool y134) rfl rfl (by decide) (q_assign rfl) ?_
                          refine GoOps.nil ?_
                          exact Go.ret ⟨.inl rfl, _, _, DOk.nil, (resOk1 Try.results5 rfl), ⟨_, rfl, h⟩⟩
                · intro j69 hj69 h
                  rcases bor p3 with hc135 | hc135
                  · have h := h.1 hc135
                    refine Go.condT (btT rfl hc135) ?_
                    refine Go.region rfl ?_
                    refine GoOps.q (v := .pointer y15) rfl rfl (by decide) (q_move e63_11) ?_
                    refine GoOps.q (v := .int .i64 y52) rfl rfl (by decide) (q_move e63_14) ?_
                    refine call_dst rfl (by decide) body16 (image_Image_Look_s _ _ _ _ h) rfl ?_
                    rintro _ H136 ⟨y137, y138, rfl, h⟩
                    refine GoOps.q (v := .tuple #[.int .i64 y137, .bool y138]) rfl rfl (by decide) (q_move rfl) ?_
                    refine GoOps.q (v := .int .i64 y137) rfl rfl (by decide) (q_extract rfl rfl) ?_
                    refine GoOps.q (v := .bool y138) rfl rfl (by decide) (q_extract rfl rfl) ?_
                    refine GoOps.q (v := .int .i64 y137) rfl rfl (by decide) (q_assign rfl) ?_
                    refine GoOps.nil ?_
                    exact hj69 _ _ _ h ⟨e63_11, e63_14, e63_15, rfl⟩
                  · have h := h.2 hc135
                    refine Go.condF (btF rfl hc135) ?_
                    refine Go.skip ?_
                    exact hj69 _ _ _ h ⟨e63_11, e63_14, e63_15, rfl⟩
            · intro j61 hj61 h
              rcases bor y58 with hc59 | hc59
              · have h := h.1 hc59
                refine no_dst (want_no rfl rfl rfl hc59) rfl (by decide) ?_
                refine no_dst (want_no rfl rfl rfl hc59) rfl (by decide) ?_
                refine no_dst (want_no rfl rfl rfl hc59) rfl (by decide) ?_
                refine no_dst (want_no rfl rfl rfl hc59) rfl (by decide) ?_
                refine no_dst (want_no rfl rfl rfl hc59) rfl (by decide) ?_
                refine GoOps.q (v := .bool true) rfl rfl (by decide) (q_pickT (btT rfl hc59) rfl) ?_
                exact hj61 true _ _ h (by exact ⟨e19_3, e19_11, rfl, rfl, rfl⟩)
              · have h := h.2 hc59
                refine GoOps.q (v := .pointer y15) (want_yes rfl rfl rfl hc59) rfl (by decide) (q_move e19_11) ?_
                refine call_dst (want_yes rfl rfl rfl hc59) (by decide) body18 (keelsonlaw16_refs_s _ _ _ _ h) rfl ?_
                rintro _ H139 ⟨y140, rfl, h⟩
                refine GoOps.q (v := Sl.v y54) (want_yes rfl rfl rfl hc59) rfl (by decide) (q_move rfl) ?_
                refine call_dst (want_yes rfl rfl rfl hc59) (by decide) body20 (keelsonlaw16_like_s _ _ _ _ h) rfl ?_
                rintro _ H141 ⟨y142, rfl, h⟩
                refine GoOps.q (v := .bool (!y142)) (want_yes rfl rfl rfl hc59) rfl (by decide) (q_not rfl) ?_
                refine GoOps.q (v := .bool (!y142)) rfl rfl (by decide) (q_pickF (btF rfl hc59) rfl) ?_
                exact hj61 (!y142) _ _ h (by exact ⟨e19_3, e19_11, rfl, rfl, rfl⟩)
    · intro j8 hj8 h
      rcases bor s2 with hc6 | hc6
      · have h := h.1 hc6
        refine no_dst (want_no rfl rfl rfl hc6) rfl (by decide) ?_
        refine no_dst (want_no rfl rfl rfl hc6) rfl (by decide) ?_
        refine no_dst (want_no rfl rfl rfl hc6) rfl (by decide) ?_
        refine GoOps.q (v := .bool true) rfl rfl (by decide) (q_pickT (btT rfl hc6) rfl) ?_
        exact hj8 true _ _ h (by exact ⟨e5_0, e5_1, e5_2, e5_3, e5_4, rfl⟩)
      · have h := h.2 hc6
        refine GoOps.q (v := Sl.v p1) (want_yes rfl rfl rfl hc6) rfl (by decide) (q_move e5_1) ?_
        refine GoOps.q (v := .int .i64 (p1.len : Int)) (want_yes rfl rfl rfl hc6) rfl (by decide) (q_len Try.underlying22 rfl (ls1 rfl)) ?_
        refine GoOps.q (v := .bool (decide (40 < (p1.len : Int)))) (want_yes rfl rfl rfl hc6) rfl (by decide) (q_gtr rfl rfl) ?_
        refine GoOps.q (v := .bool (decide (40 < (p1.len : Int)))) rfl rfl (by decide) (q_pickF (btF rfl hc6) rfl) ?_
        exact hj8 (decide (40 < (p1.len : Int))) _ _ h (by exact ⟨e5_0, e5_1, e5_2, e5_3, e5_4, rfl⟩)
  · intro j3 hj3 h
    rcases bor (decide (p0 < 1)) with hc1 | hc1
    · have h := h.1 hc1
      refine no_dst (want_no rfl rfl rfl hc1) rfl (by decide) ?_
      refine no_dst (want_no rfl rfl rfl hc1) rfl (by decide) ?_
      refine GoOps.q (v := .bool true) rfl rfl (by decide) (q_pickT (btT rfl hc1) rfl) ?_
      exact hj3 true _ _ h (by exact ⟨rfl, rfl, rfl, rfl, rfl, rfl⟩)
    · have h := h.2 hc1
      refine GoOps.q (v := .int .i64 p0) (want_yes rfl rfl rfl hc1) rfl (by decide) (q_move rfl) ?_
      refine GoOps.q (v := .bool (decide (64 < p0))) (want_yes rfl rfl rfl hc1) rfl (by decide) (q_gtr rfl rfl) ?_
      refine GoOps.q (v := .bool (decide (64 < p0))) rfl rfl (by decide) (q_pickF (btF rfl hc1) rfl) ?_
      exact hj3 (decide (64 < p0)) _ _ h (by exact ⟨rfl, rfl, rfl, rfl, rfl, rfl⟩)


end Go.Proofs.Ytmbfefbgjdpelaa

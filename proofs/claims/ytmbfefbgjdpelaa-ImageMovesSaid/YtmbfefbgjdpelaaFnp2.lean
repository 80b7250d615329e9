import Derived.Test.YtmbfefbgjdpelaaFnp1
set_option linter.unusedVariables false
set_option linter.unusedSimpArgs false
namespace Go.Proofs.Ytmbfefbgjdpelaa
open Go Go.Kx Go.Proofs
/-- keelson.keelsonlaw16.ImageStands -/
def keelsonlaw16_ImageStands (p0 : Int) (p1 : Sl) (H : PH) (Q : Bool → PH → Prop) : Prop :=
  mJoin (fun (s2 : Bool) (H4 : PH) =>
  mJoin (fun (s7 : Bool) (H9 : PH) =>
  mIf s7
  (keelsonlaw16_awake H9 fun y13 H12 =>
  Q y13 H12)
  (image_New p0 H9 fun y15 H14 =>
  mIf (Option.isNone y15)
  (Q false H14)
  (mBoth (MkOk 8 p0 p0) <|
  mBoth (MkOk 8 p0 p0) <|
  mNewSI H14 (row (zeros (p0 : Int).toNat [.int .i64 0]) 3) p0 p0 fun r19 H20 =>
  mNewSI H20 (row (zeros (p0 : Int).toNat [.int .i64 0]) 3) p0 p0 fun r22 H23 =>
  mLoop (fun (s25 : Int) (H28 : PH) (again26 : Int → PH → Prop) =>
  mIf (decide (s25 < p0))
  (mIdx r22 1 s25 fun a30 =>
  mSt H28 a30 ([.int .i64 (-1)]) fun H32 =>
  again26 (IntKind.wrap .i64 (s25 + 1)) H32)
  (mLoop (fun (s34 : Int) (H37 : PH) (again35 : Int → PH → Prop) =>
  mIf (decide (s34 < (p1.len : Int)))
  (mIdx p1 3 s34 fun a39 =>
  mLd (.int .i64) H37 (a39.add 1) fun x41 =>
  keelsonalike_Round x41 p0 H37 fun y44 H43 =>
  mIdx p1 3 s34 fun a45 =>
  mLd (.int .i64) H43 (a45.add 2) fun x47 =>
  keelsonalike_Round x47 (IntKind.wrap .i64 (p0 - y44)) H43 fun y50 H49 =>
  mIdx p1 3 s34 fun a51 =>
  mLd (.int .i64) H49 (a51.add 0) fun x53 =>
  mJoin (fun (s55 : Unit) (H57 : PH) =>
  mLoop (fun (s59 : Int × Int) (H62 : PH) (again60 : (Int × Int) → PH → Prop) =>
  mIf (decide (s59.2 < p0))
  (mIdx r22 1 s59.2 fun a64 =>
  mLd (.int .i64) H62 a64 fun x66 =>
  mJoin (fun (s69 : Bool) (H71 : PH) =>
  mJoin (fun (s73 : Unit) (H75 : PH) =>
  mIdx p1 3 s34 fun a77 =>
  mLd (.int .i64) H75 (a77.add 0) fun x79 =>
  mJoin (fun (s82 : Bool) (H84 : PH) =>
  mJoin (fun (s86 : Unit) (H88 : PH) =>
  mIdx r19 1 s59.2 fun a90 =>
  mLd (.int .i64) H88 a90 fun x92 =>
  mIdx r22 1 s59.2 fun a94 =>
  mLd (.int .i64) H88 a94 fun x96 =>
  mJoin (fun (s98 : Int × Int) (H100 : PH) =>
  image_Image_Ref y15 s59.2 H100 fun y103 y104 H102 =>
  image_Image_Look y15 s59.2 H102 fun y106 y107 H105 =>
  mJoin (fun (s109 : Bool) (H111 : PH) =>
  mJoin (fun (s114 : Bool) (H116 : PH) =>
  mJoin (fun (s119 : Bool) (H121 : PH) =>
  mIf s119
  (Q false H121)
  (again60 (s98.1, IntKind.wrap .i64 (s59.2 + 1)) H121))
  fun j120 =>
  mIf s114
  (j120 true H116)
  (j120 (y106 != s98.2) H116))
  fun j115 =>
  mIf s109
  (j115 true H111)
  (mIdx r19 1 s59.2 fun a124 =>
  mLd (.int .i64) H111 a124 fun x126 =>
  j115 (y103 != x126) H111))
  fun j110 =>
  mIf (!y104)
  (j110 true H105)
  (j110 (!y107) H105))
  fun j99 =>
  mIf (decide (0 ≤ x96))
  (mIdx r22 1 s59.2 fun a129 =>
  mLd (.int .i64) H88 a129 fun x131 =>
  j99 (IntKind.wrap .i64 (s59.1 + 1), x131) H88)
  (j99 (s59.1, x92) H88))
  fun j87 =>
  mIf s82
  (mIdx r22 1 s59.2 fun a134 =>
  mSt H84 a134 ([.int .i64 (-1)]) fun H136 =>
  j87 () H136)
  (j87 () H84))
  fun j83 =>
  mIf (x79 == 3)
  (j83 true H75)
  (mIdx p1 3 s34 fun a138 =>
  mLd (.int .i64) H75 (a138.add 0) fun x140 =>
  j83 (x140 == 4) H75))
  fun j74 =>
  mIf s69
  (mIdx r22 1 s59.2 fun a143 =>
  mLd (.int .i64) H71 a143 fun x145 =>
  mIdx r19 1 s59.2 fun a147 =>
  mSt H71 a147 ([.int .i64 x145]) fun H149 =>
  j74 () H149)
  (j74 () H71))
  fun j70 =>
  mIf (decide (0 ≤ x66))
  (mIdx p1 3 s34 fun a151 =>
  mLd (.int .i64) H62 (a151.add 0) fun x153 =>
  j70 (x153 == 3) H62)
  (j70 false H62))
  (image_Image_Pending y15 H62 fun y156 H155 =>
  mIf (y156 != s59.1)
  (Q false H155)
  (again35 (IntKind.wrap .i64 (s34 + 1)) H155)))
  (0, 0) H57)
  fun j56 =>
  mIf (x53 == 1)
  (image_Image_Write y15 y44 (IntKind.wrap .i64 (s34 + 1)) H49 fun y160 y161 H159 =>
  mIdx r22 1 y44 fun a162 =>
  mSt H159 a162 ([.int .i64 (IntKind.wrap .i64 (s34 + 1))]) fun H164 =>
  j56 () H164)
  (mIf (x53 == 2)
  (image_Image_Trim y15 y44 (IntKind.wrap .i64 (1 + y50)) H49 fun y168 y169 H167 =>
  mLoop (fun (s170 : Int) (H173 : PH) (again171 : Int → PH → Prop) =>
  mIf (decide (s170 < (IntKind.wrap .i64 (y44 + (IntKind.wrap .i64 (1 + y50))))))
  (mIdx r22 1 s170 fun a175 =>
  mSt H173 a175 ([.int .i64 0]) fun H177 =>
  again171 (IntKind.wrap .i64 (s170 + 1)) H177)
  (j56 () H173))
  y44 H167)
  (mIf (x53 == 3)
  (image_Image_Commit y15 H49 fun y181 H180 =>
  j56 () H180)
  (mIf (x53 == 4)
  (image_Image_Forget y15 H49 fun y184 H183 =>
  j56 () H183)
  (mIf (x53 == 5)
  (image_Image_Put y15 y44 (IntKind.wrap .i64 (s34 + 1)) H49 fun y187 y188 H186 =>
  mIdx r19 1 y44 fun a189 =>
  mSt H186 a189 ([.int .i64 (IntKind.wrap .i64 (s34 + 1))]) fun H191 =>
  j56 () H191)
  (mIf (x53 == 6)
  (image_Image_Drop y15 y44 (IntKind.wrap .i64 (1 + y50)) H49 fun y195 y196 H194 =>
  mLoop (fun (s197 : Int) (H200 : PH) (again198 : Int → PH → Prop) =>
  mIf (decide (s197 < (IntKind.wrap .i64 (y44 + (IntKind.wrap .i64 (1 + y50))))))
  (mIdx r19 1 s197 fun a202 =>
  mSt H200 a202 ([.int .i64 0]) fun H204 =>
  again198 (IntKind.wrap .i64 (s197 + 1)) H204)
  (j56 () H200))
  y44 H194)
  (j56 () H49)))))))
  (keelsonlaw16_awake H37 fun y207 H206 =>
  Q y207 H206))
  0 H28))
  0 H23)))
  fun j8 =>
  mIf s2
  (j8 true H4)
  (j8 (decide (60 < (p1.len : Int))) H4))
  fun j3 =>
  mIf (decide (p0 < 1))
  (j3 true H)
  (j3 (decide (64 < p0)) H)

set_option maxRecDepth 20000 in
set_option maxHeartbeats 1000000 in
theorem keelsonlaw16_ImageStands_s (p0 : Int) (p1 : Sl) (H : PH) (Q : Bool → PH → Prop) (h : keelsonlaw16_ImageStands p0 p1 H Q) :
    CallsH Try.prog 3 #[.int .i64 p0, Sl.v p1] H (fun v H' => ∃ (r0 : Bool), v = .bool r0 ∧ Q r0 H') := by
  unfold keelsonlaw16_ImageStands at h
  refine callsH_of_go Try.func3 rfl Try.ntmps3 (Nat.le_of_ble_eq_true rfl) ?_
  refine Go.seq ?_
  refine Go.region rfl ?_
  refine GoOps.q (v := .bool false) rfl rfl (by decide) (q_assign rfl) ?_
  refine GoOps.nil ?_
  refine Go.seq ?_
  refine Go.seq ?_
  refine Go.region rfl ?_
  refine GoOps.q (v := .int .i64 p0) rfl rfl (by decide) (q_move rfl) ?_
  refine GoOps.q (v := .bool (decide (p0 < 1))) rfl rfl (by decide) (q_lss rfl rfl) ?_
  refine GoOps.q (v := .bool (decide (p0 < 1))) rfl rfl (by decide) (q_move rfl) ?_
  refine join_ops 3 (fun ρ (s2 : Bool) => ρ 0 = .int .i64 p0 ∧ ρ 1 = Sl.v p1 ∧ ρ 26 = .bool s2) h ?_ ?_ <;> clear h
  · intro s2 H4 ρ h hE
    obtain ⟨e5_0, e5_1, e5_26⟩ := hE
    refine GoOps.q (v := .bool s2) rfl rfl (by decide) (q_move e5_26) ?_
    refine join_ops 4 (fun ρ (s7 : Bool) => ρ 0 = .int .i64 p0 ∧ ρ 1 = Sl.v p1 ∧ ρ 31 = .bool s7) h ?_ ?_ <;> clear h
    · intro s7 H9 ρ h hE
      obtain ⟨e10_0, e10_1, e10_31⟩ := hE
      refine GoOps.nil ?_
      rcases bor s7 with hc11 | hc11
      · have h := h.1 hc11
        refine Go.condT (btT e10_31 hc11) ?_
        refine Go.seq ?_
        refine Go.region rfl ?_
        refine call_dst rfl (by decide) body6 (keelsonlaw16_awake_s _ _ h) rfl ?_
        rintro _ H12 ⟨y13, rfl, h⟩
        refine GoOps.q (v := .bool y13) rfl rfl (by decide) (q_assign rfl) ?_
        refine GoOps.nil ?_
        exact Go.ret ⟨.inl rfl, _, _, DOk.nil, (resOk1 Try.results3 rfl), ⟨_, rfl, h⟩⟩
      · have h := h.2 hc11
        refine Go.condF (btF e10_31 hc11) ?_
        refine Go.skip ?_
        refine Go.seq ?_
        refine Go.region rfl ?_
        refine GoOps.q (v := .int .i64 p0) rfl rfl (by decide) (q_move e10_0) ?_
        refine call_dst rfl (by decide) body7 (image_New_s _ _ _ h) rfl ?_
        rintro _ H14 ⟨y15, rfl, h⟩
        refine GoOps.q (v := .pointer y15) rfl rfl (by decide) (q_assign rfl) ?_
        refine GoOps.nil ?_
        refine Go.seq ?_
        refine Go.seq ?_
        refine Go.region rfl ?_
        refine GoOps.q (v := .pointer y15) rfl rfl (by decide) (q_move rfl) ?_
        refine GoOps.q (v := .bool (Option.isNone y15)) rfl rfl (by decide) (q_eqlPn Try.underlying24 rfl rfl) ?_
        refine GoOps.nil ?_
        rcases bor (Option.isNone y15) with hc16 | hc16
        · have h := h.1 hc16
          refine Go.condT (btT rfl hc16) ?_
          refine Go.seq ?_
          refine Go.region rfl ?_
          refine GoOps.q (v := .bool false) rfl rfl (by decide) (q_assign rfl) ?_
          refine GoOps.nil ?_
          exact Go.ret ⟨.inl rfl, _, _, DOk.nil, (resOk1 Try.results3 rfl), ⟨_, rfl, h⟩⟩
        · have h := h.2 hc16
          refine Go.condF (btF rfl hc16) ?_
          refine Go.skip ?_
          refine Go.seq ?_
          refine Go.draw mixed ?_
          refine plan_pure (i := 0) (d := 37) (S2 := 1) (v := .int .i64 p0) rfl (by decide +kernel) rfl (q_move e10_0) ?_
          refine plan_pure (i := 2) (d := 39) (S2 := 5) (v := .int .i64 p0) rfl (by decide +kernel) rfl (q_move e10_0) ?_
          obtain ⟨hm17, h⟩ := h
          obtain ⟨hm18, h⟩ := h
          refine plan_step (R := [1, 3]) (by decide +kernel) ⟨?_, ?_, trivial⟩
          · refine pstep_yes (S2 := 7) rfl (by decide +kernel) (by decide) rfl ?_
            refine do_mk (zs := [.int .i64 0]) slice26 bytes3 (by decide) zero3 rfl rfl (by decide) rfl rfl hm17 fun r19 H20 hb21 => ?_
            have h := h r19 H20 hb21
            refine ⟨_, rfl, ?_⟩
            refine plan_pure (i := 4) (d := 6) (S2 := 23) (v := Sl.v r19) rfl (by decide +kernel) rfl (q_assign rfl) ?_
            refine plan_one (j := 3) (S2 := 31) (by decide +kernel) rfl (by decide) rfl ?_
            refine do_mk (zs := [.int .i64 0]) slice26 bytes3 (by decide) zero3 rfl rfl (by decide) rfl rfl hm18 fun r22 H23 hb24 => ?_
            have h := h r22 H23 hb24
            refine ⟨_, rfl, ?_⟩
            refine plan_pure (i := 5) (d := 7) (S2 := 63) (v := Sl.v r22) rfl (by decide +kernel) rfl (q_assign rfl) ?_
            refine plan_done (by decide +kernel) ?_
            refine Go.seq ?_
            refine Go.seq ?_
            refine Go.region rfl ?_
            refine GoOps.q (v := .int .i64 0) rfl rfl (by decide) (q_assign rfl) ?_
            refine GoOps.nil ?_
            refine Go.block ?_
            refine loop_go (fun ρ (s25 : Int) => ρ 0 = .int .i64 p0 ∧ ρ 1 = Sl.v p1 ∧ ρ 5 = .pointer y15 ∧ ρ 6 = Sl.v r19 ∧ ρ 7 = Sl.v r22 ∧ ρ 8 = .int .i64 s25) h ⟨e10_0, e10_1, rfl, rfl, rfl, rfl⟩ ?_
            clear h
            intro ρ s25 H28 again26 hE h hagain26
            obtain ⟨e27_0, e27_1, e27_5, e27_6, e27_7, e27_8⟩ := hE
            refine Go.seq ?_
            refine Go.seq ?_
            refine Go.region rfl ?_
            refine GoOps.q (v := .int .i64 s25) rfl rfl (by decide) (q_move e27_8) ?_
            refine GoOps.q (v := .int .i64 p0) rfl rfl (by decide) (q_move e27_0) ?_
            refine GoOps.q (v := .bool (decide (s25 < p0))) rfl rfl (by decide) (q_lss rfl rfl) ?_
            refine GoOps.nil ?_
            rcases bor (decide (s25 < p0)) with hc29 | hc29
            · have h := h.1 hc29
              refine Go.condT (btT rfl hc29) ?_
              refine Go.skip ?_
              refine Go.seq ?_
              refine Go.block ?_
              refine Go.region rfl ?_
              refine GoOps.q (v := Sl.v r22) rfl rfl (by decide) (q_move e27_7) ?_
              refine GoOps.q (v := .int .i64 s25) rfl rfl (by decide) (q_move e27_8) ?_
              obtain ⟨a30, ha31, h⟩ := h
              refine GoOps.q (v := .pointer (some a30)) rfl rfl (by decide) (q_idx slice26 ha31 rfl rfl) ?_
              obtain ⟨q33b, q33o, q33c, q33e, hq33a, hq33b, hq33l, hq33v, h⟩ := h
              refine op_none rfl rfl (do_store (vs := [.int .i64 (-1)]) size3 (pta rfl hq33a) rfl rfl rfl hq33v hq33b hq33l ?_) 
              refine GoOps.nil ?_
              refine Go.inBlock ?_
              refine Go.region rfl ?_
              refine GoOps.q (v := .int .i64 s25) rfl rfl (by decide) (q_move e27_8) ?_
              refine GoOps.q (v := .int .i64 (IntKind.wrap .i64 (s25 + 1))) rfl rfl (by decide) (q_add rfl rfl) ?_
              refine GoOps.q (v := .int .i64 (IntKind.wrap .i64 (s25 + 1))) rfl rfl (by decide) (q_assign rfl) ?_
              refine GoOps.nil ?_
              exact hagain26 _ _ _ h ⟨e27_0, e27_1, e27_5, e27_6, e27_7, rfl⟩
            · have h := h.2 hc29
              refine Go.condF (btF rfl hc29) ?_
              refine Go.exit rfl ?_
              refine Go.seq ?_
              refine Go.seq ?_
              refine Go.region rfl ?_
              refine GoOps.q (v := .int .i64 0) rfl rfl (by decide) (q_assign rfl) ?_
              refine GoOps.nil ?_
              refine Go.block ?_
              refine loop_go (fun ρ (s34 : Int) => ρ 0 = .int .i64 p0 ∧ ρ 1 = Sl.v p1 ∧ ρ 5 = .pointer y15 ∧ ρ 6 = Sl.v r19 ∧ ρ 7 = Sl.v r22 ∧ ρ 9 = .int .i64 s34) h ⟨e27_0, e27_1, e27_5, e27_6, e27_7, rfl⟩ ?_
              clear h
              intro ρ s34 H37 again35 hE h hagain35
              obtain ⟨e36_0, e36_1, e36_5, e36_6, e36_7, e36_9⟩ := hE
              refine Go.seq ?_
              refine Go.seq ?_
              refine Go.region rfl ?_
              refine GoOps.q (v := .int .i64 s34) rfl rfl (by decide) (q_move e36_9) ?_
              refine GoOps.q (v := Sl.v p1) rfl rfl (by decide) (q_move e36_1) ?_
              refine GoOps.q (v := .int .i64 (p1.len : Int)) rfl rfl (by decide) (q_len Try.underlying22 rfl (ls1 rfl)) ?_
              refine GoOps.q (v := .bool (decide (s34 < (p1.len : Int)))) rfl rfl (by decide) (q_lss rfl rfl) ?_
              refine GoOps.nil ?_
              rcases bor (decide (s34 < (p1.len : Int))) with hc38 | hc38
              · have h := h.1 hc38
                refine Go.condT (btT rfl hc38) ?_
                refine Go.skip ?_
                refine Go.seq ?_
                refine Go.block ?_
                refine Go.seq ?_
                refine Go.region rfl ?_
                refine GoOps.q (v := Sl.v p1) rfl rfl (by decide) (q_move e36_1) ?_
                refine GoOps.q (v := .int .i64 s34) rfl rfl (by decide) (q_move e36_9) ?_
                obtain ⟨a39, ha40, h⟩ := h
                refine GoOps.q (v := .pointer (some a39)) rfl rfl (by decide) (q_idx slice22 ha40 rfl rfl) ?_
                refine GoOps.q (v := .pointer (some (a39.add 1))) rfl rfl (by decide) (q_fieldAddr foff29_1 rfl) ?_
                obtain ⟨x41, hx42, h⟩ := h
                refine GoOps.q (v := .int .i64 x41) rfl rfl (by decide) (q_load scalar3 rfl hx42) ?_
                refine GoOps.q (v := .int .i64 p0) rfl rfl (by decide) (q_move e36_0) ?_
                refine call_dst rfl (by decide) body8 (keelsonalike_Round_s _ _ _ _ h) rfl ?_
                rintro _ H43 ⟨y44, rfl, h⟩
                refine GoOps.q (v := .int .i64 y44) rfl rfl (by decide) (q_assign rfl) ?_
                refine GoOps.nil ?_
                refine Go.seq ?_
                refine Go.region rfl ?_
                refine GoOps.q (v := Sl.v p1) rfl rfl (by decide) (q_move e36_1) ?_
                refine GoOps.q (v := .int .i64 s34) rfl rfl (by decide) (q_move e36_9) ?_
                obtain ⟨a45, ha46, h⟩ := h
                refine GoOps.q (v := .pointer (some a45)) rfl rfl (by decide) (q_idx slice22 ha46 rfl rfl) ?_
                refine GoOps.q (v := .pointer (some (a45.add 2))) rfl rfl (by decide) (q_fieldAddr foff29_2 rfl) ?_
                obtain ⟨x47, hx48, h⟩ := h
                refine GoOps.q (v := .int .i64 x47) rfl rfl (by decide) (q_load scalar3 rfl hx48) ?_
                refine GoOps.q (v := .int .i64 p0) rfl rfl (by decide) (q_move e36_0) ?_
                refine GoOps.q (v := .int .i64 y44) rfl rfl (by decide) (q_move rfl) ?_
                refine GoOps.q (v := .int .i64 (IntKind.wrap .i64 (p0 - y44))) rfl rfl (by decide) (q_sub rfl rfl) ?_
                refine call_dst rfl (by decide) body8 (keelsonalike_Round_s _ _ _ _ h) rfl ?_
                rintro _ H49 ⟨y50, rfl, h⟩
                refine GoOps.q (v := .int .i64 (IntKind.wrap .i64 (1 + y50))) rfl rfl (by decide) (q_add rfl rfl) ?_
                refine GoOps.q (v := .int .i64 (IntKind.wrap .i64 (1 + y50))) rfl rfl (by decide) (q_assign rfl) ?_
                refine GoOps.nil ?_
                refine Go.seq ?_
                refine Go.seq ?_
                refine Go.region rfl ?_
                refine GoOps.q (v := Sl.v p1) rfl rfl (by decide) (q_move e36_1) ?_
                refine GoOps.q (v := .int .i64 s34) rfl rfl (by decide) (q_move e36_9) ?_
                obtain ⟨a51, ha52, h⟩ := h
                refine GoOps.q (v := .pointer (some a51)) rfl rfl (by decide) (q_idx slice22 ha52 rfl rfl) ?_
                refine GoOps.q (v := .pointer (some (a51.add 0))) rfl rfl (by decide) (q_fieldAddr foff29_0 rfl) ?_
                obtain ⟨x53, hx54, h⟩ := h
                refine GoOps.q (v := .int .i64 x53) rfl rfl (by decide) (q_load scalar3 rfl hx54) ?_
                refine GoOps.nil ?_
                refine join_go 1 (fun ρ (s55 : Unit) => ρ 0 = .int .i64 p0 ∧ ρ 1 = Sl.v p1 ∧ ρ 5 = .pointer y15 ∧ ρ 6 = Sl.v r19 ∧ ρ 7 = Sl.v r22 ∧ ρ 9 = .int .i64 s34) h ?_ ?_ <;> clear h
                · intro s55 H57 ρ h hE
                  obtain ⟨e58_0, e58_1, e58_5, e58_6, e58_7, e58_9⟩ := hE
                  refine Go.seq ?_
                  refine Go.region rfl ?_
                  refine GoOps.q (v := .int .i64 0) rfl rfl (by decide) (q_assign rfl) ?_
                  refine GoOps.nil ?_
                  refine Go.seq ?_
                  refine Go.seq ?_
                  refine Go.region rfl ?_
                  refine GoOps.q (v := .int .i64 0) rfl rfl (by decide) (q_assign rfl) ?_
                  refine GoOps.nil ?_
                  refine Go.block ?_
                  refine loop_go (fun ρ (s59 : Int × Int) => ρ 0 = .int .i64 p0 ∧ ρ 1 = Sl.v p1 ∧ ρ 5 = .pointer y15 ∧ ρ 6 = Sl.v r19 ∧ ρ 7 = Sl.v r22 ∧ ρ 9 = .int .i64 s34 ∧ ρ 14 = .int .i64 s59.1 ∧ ρ 15 = .int .i64 s59.2) h ⟨e58_0, e58_1, e58_5, e58_6, e58_7, e58_9, rfl, rfl⟩ ?_
                  clear h
                  intro ρ s59 H62 again60 hE h hagain60
                  obtain ⟨e61_0, e61_1, e61_5, e61_6, e61_7, e61_9, e61_14, e61_15⟩ := hE
                  refine Go.seq ?_
                  refine Go.seq ?_
                  refine Go.region rfl ?_
                  refine GoOps.q (v := .int .i64 s59.2) rfl rfl (by decide) (q_move e61_15) ?_
                  refine GoOps.q (v := .int .i64 p0) rfl rfl (by decide) (q_move e61_0) ?_
                  refine GoOps.q (v := .bool (decide (s59.2 < p0))) rfl rfl (by decide) (q_lss rfl rfl) ?_
                  refine GoOps.nil ?_
                  rcases bor (decide (s59.2 < p0)) with hc63 | hc63
                  · have h := h.1 hc63
                    refine Go.condT (btT rfl hc63) ?_
                    refine Go.skip ?_
                    refine Go.seq ?_
                    refine Go.block ?_
                    refine Go.seq ?_
                    refine Go.seq ?_
                    refine Go.region rfl ?_
                    refine GoOps.q (v := Sl.v r22) rfl rfl (by decide) (q_move e61_7) ?_
                    refine GoOps.q (v := .int .i64 s59.2) rfl rfl (by decide) (q_move e61_15) ?_
                    obtain ⟨a64, ha65, h⟩ := h
                    refine GoOps.q (v := .pointer (some a64)) rfl rfl (by decide) (q_idx slice26 ha65 rfl rfl) ?_
                    obtain ⟨x66, hx67, h⟩ := h
                    refine GoOps.q (v := .int .i64 x66) rfl rfl (by decide) (q_load scalar3 rfl hx67) ?_
                    refine GoOps.q (v := .bool (decide (0 ≤ x66))) rfl rfl (by decide) (q_geq rfl rfl) ?_
                    refine GoOps.q (v := .bool (decide (0 ≤ x66))) rfl rfl (by decide) (q_move rfl) ?_
                    refine join_ops 7 (fun ρ (s69 : Bool) => ρ 0 = .int .i64 p0 ∧ ρ 1 = Sl.v p1 ∧ ρ 5 = .pointer y15 ∧ ρ 6 = Sl.v r19 ∧ ρ 7 = Sl.v r22 ∧ ρ 9 = .int .i64 s34 ∧ ρ 14 = .int .i64 s59.1 ∧ ρ 15 = .int .i64 s59.2 ∧ ρ 160 = .bool s69) h ?_ ?_ <;> clear h
                    · intro s69 H71 ρ h hE
                      obtain ⟨e72_0, e72_1, e72_5, e72_6, e72_7, e72_9, e72_14, e72_15, e72_160⟩ := hE
                      refine GoOps.nil ?_
                      refine join_go 1 (fun ρ (s73 : Unit) => ρ 0 = .int .i64 p0 ∧ ρ 1 = Sl.v p1 ∧ ρ 5 = .pointer y15 ∧ ρ 6 = Sl.v r19 ∧ ρ 7 = Sl.v r22 ∧ ρ 9 = .int .i64 s34 ∧ ρ 14 = .int .i64 s59.1 ∧ ρ 15 = .int .i64 s59.2) h ?_ ?_ <;> clear h
                      · intro s73 H75 ρ h hE
                        obtain ⟨e76_0, e76_1, e76_5, e76_6, e76_7, e76_9, e76_14, e76_15⟩ := hE
                        refine Go.seq ?_
                        refine Go.seq ?_
                        refine Go.region rfl ?_
                        refine GoOps.q (v := Sl.v p1) rfl rfl (by decide) (q_move e76_1) ?_
                        refine GoOps.q (v := .int .i64 s34) rfl rfl (by decide) (q_move e76_9) ?_
                        obtain ⟨a77, ha78, h⟩ := h
                        refine GoOps.q (v := .pointer (some a77)) rfl rfl (by decide) (q_idx slice22 ha78 rfl rfl) ?_
                        refine GoOps.q (v := .pointer (some (a77.add 0))) rfl rfl (by decide) (q_fieldAddr foff29_0 rfl) ?_
                        obtain ⟨x79, hx80, h⟩ := h
                        refine GoOps.q (v := .int .i64 x79) rfl rfl (by decide) (q_load scalar3 rfl hx80) ?_
                        refine GoOps.q (v := .bool (x79 == 3)) rfl rfl (by decide) (q_eql rfl rfl) ?_
                        refine GoOps.q (v := .bool (x79 == 3)) rfl rfl (by decide) (q_move rfl) ?_
                        refine join_ops 7 (fun ρ (s82 : Bool) => ρ 0 = .int .i64 p0 ∧ ρ 1 = Sl.v p1 ∧ ρ 5 = .pointer y15 ∧ ρ 6 = Sl.v r19 ∧ ρ 7 = Sl.v r22 ∧ ρ 9 = .int .i64 s34 ∧ ρ 14 = .int .i64 s59.1 ∧ ρ 15 = .int .i64 s59.2 ∧ ρ 181 = .bool s82) h ?_ ?_ <;> clear h
                        · intro s82 H84 ρ h hE
                          obtain ⟨e85_0, e85_1, e85_5, e85_6, e85_7, e85_9, e85_14, e85_15, e85_181⟩ := hE
                          refine GoOps.nil ?_
                          refine join_go 1 (fun ρ (s86 : Unit) => ρ 0 = .int .i64 p0 ∧ ρ 1 = Sl.v p1 ∧ ρ 5 = .pointer y15 ∧ ρ 6 = Sl.v r19 ∧ ρ 7 = Sl.v r22 ∧ ρ 9 = .int .i64 s34 ∧ ρ 14 = .int .i64 s59.1 ∧ ρ 15 = .int .i64 s59.2) h ?_ ?_ <;> clear h
                          · intro s86 H88 ρ h hE
                            obtain ⟨e89_0, e89_1, e89_5, e89_6, e89_7, e89_9, e89_14, e89_15⟩ := hE
                            refine Go.seq ?_
                            refine Go.region rfl ?_
                            refine GoOps.q (v := Sl.v r19) rfl rfl (by decide) (q_move e89_6) ?_
                            refine GoOps.q (v := .int .i64 s59.2) rfl rfl (by decide) (q_move e89_15) ?_
                            obtain ⟨a90, ha91, h⟩ := h
                            refine GoOps.q (v := .pointer (some a90)) rfl rfl (by decide) (q_idx slice26 ha91 rfl rfl) ?_
                            obtain ⟨x92, hx93, h⟩ := h
                            refine GoOps.q (v := .int .i64 x92) rfl rfl (by decide) (q_load scalar3 rfl hx93) ?_
                            refine GoOps.q (v := .int .i64 x92) rfl rfl (by decide) (q_assign rfl) ?_
                            refine GoOps.nil ?_
                            refine Go.seq ?_
                            refine Go.seq ?_
                            refine Go.region rfl ?_
                            refine GoOps.q (v := Sl.v r22) rfl rfl (by decide) (q_move e89_7) ?_
                            refine GoOps.q (v := .int .i64 s59.2) rfl rfl (by decide) (q_move e89_15) ?_
                            obtain ⟨a94, ha95, h⟩ := h
                            refine GoOps.q (v := .pointer (some a94)) rfl rfl (by decide) (q_idx slice26 ha95 rfl rfl) ?_
                            obtain ⟨x96, hx97, h⟩ := h
                            refine GoOps.q (v := .int .i64 x96) rfl rfl (by decide) (q_load scalar3 rfl hx97) ?_
                            refine GoOps.q (v := .bool (decide (0 ≤ x96))) rfl rfl (by decide) (q_geq rfl rfl) ?_
                            refine GoOps.nil ?_
                            refine join_go 1 (fun ρ (s98 : Int × Int) => ρ 0 = .int .i64 p0 ∧ ρ 1 = Sl.v p1 ∧ ρ 5 = .pointer y15 ∧ ρ 6 = Sl.v r19 ∧ ρ 7 = Sl.v r22 ∧ ρ 9 = .int .i64 s34 ∧ ρ 14 = .int .i64 s98.1 ∧ ρ 15 = .int .i64 s59.2 ∧ ρ 16 = .int .i64 s98.2) h ?_ ?_ <;> clear h
                            · intro s98 H100 ρ h hE
                              obtain ⟨e101_0, e101_1, e101_5, e101_6, e101_7, e101_9, e101_14, e101_15, e101_16⟩ := hE
                              refine Go.seq ?_
                              refine Go.region rfl ?_
                              refine GoOps.q (v := .pointer y15) rfl rfl (by decide) (q_move e101_5) ?_
                              refine GoOps.q (v := .int .i64 s59.2) rfl rfl (by decide) (q_move e101_15) ?_
                              refine call_dst rfl (by decide) body15 (image_Image_Ref_s _ _ _ _ h) rfl ?_
                              rintro _ H102 ⟨y103, y104, rfl, h⟩
                              refine GoOps.q (v := .tuple #[.int .i64 y103, .bool y104]) rfl rfl (by decide) (q_move rfl) ?_
                              refine GoOps.q (v := .int .i64 y103) rfl rfl (by decide) (q_extract rfl rfl) ?_
                              refine GoOps.q (v := .bool y104) rfl rfl (by decide) (q_extract rfl rfl) ?_
                              refine GoOps.q (v := .int .i64 y103) rfl rfl (by decide) (q_assign rfl) ?_
                              refine GoOps.q (v := .bool y104) rfl rfl (by decide) (q_assign rfl) ?_
                              refine GoOps.nil ?_
                              refine Go.seq ?_
                              refine Go.region rfl ?_
                              refine GoOps.q (v := .pointer y15) rfl rfl (by decide) (q_move e101_5) ?_
                              refine GoOps.q (v := .int .i64 s59.2) rfl rfl (by decide) (q_move e101_15) ?_
                              refine call_dst rfl (by decide) body16 (image_Image_Look_s _ _ _ _ h) rfl ?_
                              rintro _ H105 ⟨y106, y107, rfl, h⟩
                              refine GoOps.q (v := .tuple #[.int .i64 y106, .bool y107]) rfl rfl (by decide) (q_move rfl) ?_
                              refine GoOps.q (v := .int .i64 y106) rfl rfl (by decide) (q_extract rfl rfl) ?_
                              refine GoOps.q (v := .bool y107) rfl rfl (by decide) (q_extract rfl rfl) ?_
                              refine GoOps.q (v := .int .i64 y106) rfl rfl (by decide) (q_assign rfl) ?_
                              refine GoOps.q (v := .bool y107) rfl rfl (by decide) (q_assign rfl) ?_
                              refine GoOps.nil ?_
                              refine Go.seq ?_
                              refine Go.region rfl ?_
                              refine GoOps.q (v := .bool y104) rfl rfl (by decide) (q_move rfl) ?_
                              refine GoOps.q (v := .bool (!y104)) rfl rfl (by decide) (q_not rfl) ?_
                              refine GoOps.q (v := .bool (!y104)) rfl rfl (by decide) (q_move rfl) ?_
                              refine join_ops 3 (fun ρ (s109 : Bool) => ρ 0 = .int .i64 p0 ∧ ρ 1 = Sl.v p1 ∧ ρ 5 = .pointer y15 ∧ ρ 6 = Sl.v r19 ∧ ρ 7 = Sl.v r22 ∧ ρ 9 = .int .i64 s34 ∧ ρ 14 = .int .i64 s98.1 ∧ ρ 15 = .int .i64 s59.2 ∧ ρ 16 = .int .i64 s98.2 ∧ ρ 17 = .int .i64 y103 ∧ ρ 19 = .int .i64 y106 ∧ ρ 217 = .bool s109) h ?_ ?_ <;> clear h
                              · intro s109 H111 ρ h hE
                                obtain ⟨e112_0, e112_1, e112_5, e112_6, e112_7, e112_9, e112_14, e112_15, e112_16, e112_17, e112_19, e112_217⟩ := hE
                                refine GoOps.q (v := .bool s109) rfl rfl (by decide) (q_move e112_217) ?_
                                refine join_ops 7 (fun ρ (s114 : Bool) => ρ 0 = .int .i64 p0 ∧ ρ 1 = Sl.v p1 ∧ ρ 5 = .pointer y15 ∧ ρ 6 = Sl.v r19 ∧ ρ 7 = Sl.v r22 ∧ ρ 9 = .int .i64 s34 ∧ ρ 14 = .int .i64 s98.1 ∧ ρ 15 = .int .i64 s59.2 ∧ ρ 16 = .int .i64 s98.2 ∧ ρ 19 = .int .i64 y106 ∧ ρ 225 = .bool s114) h ?_ ?_ <;> clear h
                                · intro s114 H116 ρ h hE
                                  obtain ⟨e117_0, e117_1, e117_5, e117_6, e117_7, e117_9, e117_14, e117_15, e117_16, e117_19, e117_225⟩ := hE
                                  refine GoOps.q (v := .bool s114) rfl rfl (by decide) (q_move e117_225) ?_
                                  refine join_ops 4 (fun ρ (s119 : Bool) => ρ 0 = .int .i64 p0 ∧ ρ 1 = Sl.v p1 ∧ ρ 5 = .pointer y15 ∧ ρ 6 = Sl.v r19 ∧ ρ 7 = Sl.v r22 ∧ ρ 9 = .int .i64 s34 ∧ ρ 14 = .int .i64 s98.1 ∧ ρ 15 = .int .i64 s59.2 ∧ ρ 230 = .bool s119) h ?_ ?_ <;> clear h
                                  · intro s119 H121 ρ h hE
                                    obtain ⟨e122_0, e122_1, e122_5, e122_6, e122_7, e122_9, e122_14, e122_15, e122_230⟩ := hE
                                    refine GoOps.nil ?_
                                    rcases bor s119 with hc123 | hc123
                                    · have h := h.1 hc123
                                      refine Go.condT (btT e122_230 hc123) ?_
                                      refine Go.seq ?_
                                      refine Go.region rfl ?_
                                      refine GoOps.q (v := .bool false) rfl rfl (by decide) (q_assign rfl) ?_
                                      refine GoOps.nil ?_
                                      exact Go.ret ⟨.inl rfl, _, _, DOk.nil, (resOk1 Try.results3 rfl), ⟨_, rfl, h⟩⟩
                                    · have h := h.2 hc123
                                      refine Go.condF (btF e122_230 hc123) ?_
                                      refine Go.skip ?_
                                      refine Go.inBlock ?_
                                      refine Go.region rfl ?_
                                      refine GoOps.q (v := .int .i64 s59.2) rfl rfl (by decide) (q_move e122_15) ?_
                                      refine GoOps.q (v := .int .i64 (IntKind.wrap .i64 (s59.2 + 1))) rfl rfl (by decide) (q_add rfl rfl) ?_
                                      refine GoOps.q (v := .int .i64 (IntKind.wrap .i64 (s59.2 + 1))) rfl rfl (by decide) (q_assign rfl) ?_
                                      refine GoOps.nil ?_
                                      exact hagain60 _ _ _ h ⟨e122_0, e122_1, e122_5, e122_6, e122_7, e122_9, e122_14, rfl⟩
                                  · intro j120 hj120 h
                                    rcases bor s114 with hc118 | hc118
                                    · have h := h.1 hc118
                                      refine no_dst (want_no rfl rfl rfl hc118) rfl (by decide) ?_
                                      refine no_dst (want_no rfl rfl rfl hc118) rfl (by decide) ?_
                                      refine no_dst (want_no rfl rfl rfl hc118) rfl (by decide) ?_
                                      refine GoOps.q (v := .bool true) rfl rfl (by decide) (q_pickT (btT rfl hc118) rfl) ?_
                                      exact hj120 true _ _ h (by exact ⟨e117_0, e117_1, e117_5, e117_6, e117_7, e117_9, e117_14, e117_15, rfl⟩)
                                    · have h := h.2 hc118
                                      refine GoOps.q (v := .int .i64 y106) (want_yes rfl rfl rfl hc118) rfl (by decide) (q_move e117_19) ?_
                                      refine GoOps.q (v := .int .i64 s98.2) (want_yes rfl rfl rfl hc118) rfl (by decide) (q_move e117_16) ?_
                                      refine GoOps.q (v := .bool (y106 != s98.2)) (want_yes rfl rfl rfl hc118) rfl (by decide) (q_neq rfl rfl) ?_
                                      refine GoOps.q (v := .bool (y106 != s98.2)) rfl rfl (by decide) (q_pickF (btF rfl hc118) rfl) ?_
                                      exact hj120 (y106 != s98.2) _ _ h (by exact ⟨e117_0, e117_1, e117_5, e117_6, e117_7, e117_9, e117_14, e117_15, rfl⟩)
                                · intro j115 hj115 h
                                  rcases bor s109 with hc113 | hc113
                                  · have h := h.1 hc113
                                    refine no_dst (want_no rfl rfl rfl hc113) rfl (by decide) ?_
                                    refine no_dst (want_no rfl rfl rfl hc113) rfl (by decide) ?_
                                    refine no_dst (want_no rfl rfl rfl hc113) rfl (by decide) ?_
                                    refine no_dst (want_no rfl rfl rfl hc113) rfl (by decide) ?_
                                    refine no_dst (want_no rfl rfl rfl hc113) rfl (by decide) ?_
                                    refine no_dst (want_no rfl rfl rfl hc113) rfl (by decide) ?_
                                    refine GoOps.q (v := .bool true) rfl rfl (by decide) (q_pickT (btT rfl hc113) rfl) ?_
                                    exact hj115 true _ _ h (by exact ⟨e112_0, e112_1, e112_5, e112_6, e112_7, e112_9, e112_14, e112_15, e112_16, e112_19, rfl⟩)
                                  · have h := h.2 hc113
                                    refine GoOps.q (v := .int .i64 y103) (want_yes rfl rfl rfl hc113) rfl (by decide) (q_move e112_17) ?_
                                    refine GoOps.q (v := Sl.v r19) (want_yes rfl rfl rfl hc113) rfl (by decide) (q_move e112_6) ?_
                                    refine GoOps.q (v := .int .i64 s59.2) (want_yes rfl rfl rfl hc113) rfl (by decide) (q_move e112_15) ?_
                                    obtain ⟨a124, ha125, h⟩ := h
                                    refine GoOps.q (v := .pointer (some a124)) (want_yes rfl rfl rfl hc113) rfl (by decide) (q_idx slice26 ha125 rfl rfl) ?_
                                    obtain ⟨x126, hx127, h⟩ := h
                                    refine GoOps.q (v := .int .i64 x126) (want_yes rfl rfl rfl hc113) rfl (by decide) (q_load scalar3 rfl hx127) ?_
                                    refine GoOps.q (v := .bool (y103 != x126)) (want_yes rfl rfl rfl hc113) rfl (by decide) (q_neq rfl rfl) ?_
                                    refine GoOps.q (v := .bool (y103 != x126)) rfl rfl (by decide) (q_pickF (btF rfl hc113) rfl) ?_
                                    exact hj115 (y103 != x126) _ _ h (by exact ⟨e112_0, e112_1, e112_5, e112_6, e112_7, e112_9, e112_14, e112_15, e112_16, e112_19, rfl⟩)
                              · intro j110 hj110 h
                                rcases bor (!y104) with hc108 | hc108
                                · have h := h.1 hc108
                                  refine no_dst (want_no rfl rfl rfl hc108) rfl (by decide) ?_
                                  refine no_dst (want_no rfl rfl rfl hc108) rfl (by decide) ?_
                                  refine GoOps.q (v := .bool true) rfl rfl (by decide) (q_pickT (btT rfl hc108) rfl) ?_
                                  exact hj110 true _ _ h (by exact ⟨e101_0, e101_1, e101_5, e101_6, e101_7, e101_9, e101_14, e101_15, e101_16, rfl, rfl, rfl⟩)
                                · have h := h.2 hc108
                                  refine GoOps.q (v := .bool y107) (want_yes rfl rfl rfl hc108) rfl (by decide) (q_move rfl) ?_
                                  refine GoOps.q (v := .bool (!y107)) (want_yes rfl rfl rfl hc108) rfl (by decide) (q_not rfl) ?_
                                  refine GoOps.q (v := .bool (!y107)) rfl rfl (by decide) (q_pickF (btF rfl hc108) rfl) ?_
                                  exact hj110 (!y107) _ _ h (by exact ⟨e101_0, e101_1, e101_5, e101_6, e101_7, e101_9, e101_14, e101_15, e101_16, rfl, rfl, rfl⟩)
                            · intro j99 hj99 h
                              rcases bor (decide (0 ≤ x96)) with hc128 | hc128
                              · have h := h.1 hc128
                                refine Go.condT (btT rfl hc128) ?_
                                refine Go.seq ?_
                                refine Go.region rfl ?_
                                refine GoOps.q (v := Sl.v r22) rfl rfl (by decide) (q_move e89_7) ?_
                                refine GoOps.q (v := .int .i64 s59.2) rfl rfl (by decide) (q_move e89_15) ?_
                                obtain ⟨a129, ha130, h⟩ := h
                                refine GoOps.q (v := .pointer (some a129)) rfl rfl (by decide) (q_idx slice26 ha130 rfl rfl) ?_
                                obtain ⟨x131, hx132, h⟩ := h
                                refine GoOps.q (v := .int .i64 x131) rfl rfl (by decide) (q_load scalar3 rfl hx132) ?_
                                refine GoOps.q (v := .int .i64 x131) rfl rfl (by decide) (q_assign rfl) ?_
                                refine GoOps.nil ?_
                                refine Go.region rfl ?_
                                refine GoOps.q (v := .int .i64 s59.1) rfl rfl (by decide) (q_move e89_14) ?_
                                refine GoOps.q (v := .int .i64 (IntKind.wrap .i64 (s59.1 + 1))) rfl rfl (by decide) (q_add rfl rfl) ?_
                                refine GoOps.q (v := .int .i64 (IntKind.wrap .i64 (s59.1 + 1))) rfl rfl (by decide) (q_assign rfl) ?_
                                refine GoOps.nil ?_
                                exact hj99 _ _ _ h ⟨e89_0, e89_1, e89_5, e89_6, e89_7, e89_9, rfl, e89_15, rfl⟩
                              · have h := h.2 hc128
                                refine Go.condF (btF rfl hc128) ?_
                                refine Go.skip ?_
                                exact hj99 _ _ _ h ⟨e89_0, e89_1, e89_5, e89_6, e89_7, e89_9, e89_14, e89_15, rfl⟩
                          · intro j87 hj87 h
                            rcases bor s82 with hc133 | hc133
                            · have h := h.1 hc133
                              refine Go.condT (btT e85_181 hc133) ?_
                              refine Go.region rfl ?_
                              refine GoOps.q (v := Sl.v r22) rfl rfl (by decide) (q_move e85_7) ?_
                              refine GoOps.q (v := .int .i64 s59.2) rfl rfl (by decide) (q_move e85_15) ?_
                              obtain ⟨a134, ha135, h⟩ := h
                              refine GoOps.q (v := .pointer (some a134)) rfl rfl (by decide) (q_idx slice26 ha135 rfl rfl) ?_
                              obtain ⟨q137b, q137o, q137c, q137e, hq137a, hq137b, hq137l, hq137v, h⟩ := h
                              refine op_none rfl rfl (do_store (vs := [.int .i64 (-1)]) size3 (pta rfl hq137a) rfl rfl rfl hq137v hq137b hq137l ?_) 
                              refine GoOps.nil ?_
                              exact hj87 _ _ _ h ⟨e85_0, e85_1, e85_5, e85_6, e85_7, e85_9, e85_14, e85_15⟩
                            · have h := h.2 hc133
                              refine Go.condF (btF e85_181 hc133) ?_
                              refine Go.skip ?_
                              exact hj87 _ _ _ h ⟨e85_0, e85_1, e85_5, e85_6, e85_7, e85_9, e85_14, e85_15⟩
                        · intro j83 hj83 h
                          rcases bor (x79 == 3) with hc81 | hc81
                          · have h := h.1 hc81
                            refine no_dst (want_no rfl rfl rfl hc81) rfl (by decide) ?_
                            refine no_dst (want_no rfl rfl rfl hc81) rfl (by decide) ?_
                            refine no_dst (want_no rfl rfl rfl hc81) rfl (by decide) ?_
                            refine no_dst (want_no rfl rfl rfl hc81) rfl (by decide) ?_
                            refine no_dst (want_no rfl rfl rfl hc81) rfl (by decide) ?_
                            refine no_dst (want_no rfl rfl rfl hc81) rfl (by decide) ?_
                            refine GoOps.q (v := .bool true) rfl rfl (by decide) (q_pickT (btT rfl hc81) rfl) ?_
                            exact hj83 true _ _ h (by exact ⟨e76_0, e76_1, e76_5, e76_6, e76_7, e76_9, e76_14, e76_15, rfl⟩)
                          · have h := h.2 hc81
                            refine GoOps.q (v := Sl.v p1) (want_yes rfl rfl rfl hc81) rfl (by decide) (q_move e76_1) ?_
                            refine GoOps.q (v := .int .i64 s34) (want_yes rfl rfl rfl hc81) rfl (by decide) (q_move e76_9) ?_
                            obtain ⟨a138, ha139, h⟩ := h
                            refine GoOps.q (v := .pointer (some a138)) (want_yes rfl rfl rfl hc81) rfl (by decide) (q_idx slice22 ha139 rfl rfl) ?_
                            refine GoOps.q (v := .pointer (some (a138.add 0))) (want_yes rfl rfl rfl hc81) rfl (by decide) (q_fieldAddr foff29_0 rfl) ?_
                            obtain ⟨x140, hx141, h⟩ := h
                            refine GoOps.q (v := .int .i64 x140) (want_yes rfl rfl rfl hc81) rfl (by decide) (q_load scalar3 rfl hx141) ?_
                            refine GoOps.q (v := .bool (x140 == 4)) (want_yes rfl rfl rfl hc81) rfl (by decide) (q_eql rfl rfl) ?_
                            refine GoOps.q (v := .bool (x140 == 4)) rfl rfl (by decide) (q_pickF (btF rfl hc81) rfl) ?_
                            exact hj83 (x140 == 4) _ _ h (by exact ⟨e76_0, e76_1, e76_5, e76_6, e76_7, e76_9, e76_14, e76_15, rfl⟩)
                      · intro j74 hj74 h
                        rcases bor s69 with hc142 | hc142
                        · have h := h.1 hc142
                          refine Go.condT (btT e72_160 hc142) ?_
                          refine Go.region rfl ?_
                          refine GoOps.q (v := Sl.v r19) rfl rfl (by decide) (q_move e72_6) ?_
                          refine GoOps.q (v := .int .i64 s59.2) rfl rfl (by decide) (q_move e72_15) ?_
                          refine GoOps.q (v := Sl.v r22) rfl rfl (by decide) (q_move e72_7) ?_
                          refine GoOps.q (v := .int .i64 s59.2) rfl rfl (by decide) (q_move e72_15) ?_
                          obtain ⟨a143, ha144, h⟩ := h
                          refine GoOps.q (v := .pointer (some a143)) rfl rfl (by decide) (q_idx slice26 ha144 rfl rfl) ?_
                          obtain ⟨x145, hx146, h⟩ := h
                          refine GoOps.q (v := .int .i64 x145) rfl rfl (by decide) (q_load scalar3 rfl hx146) ?_
                          obtain ⟨a147, ha148, h⟩ := h
                          refine GoOps.q (v := .pointer (some a147)) rfl rfl (by decide) (q_idx slice26 ha148 rfl rfl) ?_
                          obtain ⟨q150b, q150o, q150c, q150e, hq150a, hq150b, hq150l, hq150v, h⟩ := h
                          refine op_none rfl rfl (do_store (vs := [.int .i64 x145]) size3 (pta rfl hq150a) rfl rfl rfl hq150v hq150b hq150l ?_) 
                          refine GoOps.nil ?_
                          exact hj74 _ _ _ h ⟨e72_0, e72_1, e72_5, e72_6, e72_7, e72_9, e72_14, e72_15⟩
                        · have h := h.2 hc142
                          refine Go.condF (btF e72_160 hc142) ?_
                          refine Go.skip ?_
                          exact hj74 _ _ _ h ⟨e72_0, e72_1, e72_5, e72_6, e72_7, e72_9, e72_14, e72_15⟩
                    · intro j70 hj70 h
                      rcases bor (decide (0 ≤ x66)) with hc68 | hc68
                      · have h := h.1 hc68
                        refine GoOps.q (v := Sl.v p1) (want_yes rfl rfl rfl hc68) rfl (by decide) (q_move e61_1) ?_
                        refine GoOps.q (v := .int .i64 s34) (want_yes rfl rfl rfl hc68) rfl (by decide) (q_move e61_9) ?_
                        obtain ⟨a151, ha152, h⟩ := h
                        refine GoOps.q (v := .pointer (some a151)) (want_yes rfl rfl rfl hc68) rfl (by decide) (q_idx slice22 ha152 rfl rfl) ?_
                        refine GoOps.q (v := .pointer (some (a151.add 0))) (want_yes rfl rfl rfl hc68) rfl (by decide) (q_fieldAddr foff29_0 rfl) ?_
                        obtain ⟨x153, hx154, h⟩ := h
                        refine GoOps.q (v := .int .i64 x153) (want_yes rfl rfl rfl hc68) rfl (by decide) (q_load scalar3 rfl hx154) ?_
                        refine GoOps.q (v := .bool (x153 == 3)) (want_yes rfl rfl rfl hc68) rfl (by decide) (q_eql rfl rfl) ?_
                        refine GoOps.q (v := .bool (x153 == 3)) rfl rfl (by decide) (q_pickT (btT rfl hc68) rfl) ?_
                        exact hj70 (x153 == 3) _ _ h (by exact ⟨e61_0, e61_1, e61_5, e61_6, e61_7, e61_9, e61_14, e61_15, rfl⟩)
                      · have h := h.2 hc68
                        refine no_dst (want_no rfl rfl rfl hc68) rfl (by decide) ?_
                        refine no_dst (want_no rfl rfl rfl hc68) rfl (by decide) ?_
                        refine no_dst (want_no rfl rfl rfl hc68) rfl (by decide) ?_
                        refine no_dst (want_no rfl rfl rfl hc68) rfl (by decide) ?_
                        refine no_dst (want_no rfl rfl rfl hc68) rfl (by decide) ?_
                        refine no_dst (want_no rfl rfl rfl hc68) rfl (by decide) ?_
                        refine GoOps.q (v := .bool false) rfl rfl (by decide) (q_pickF (btF rfl hc68) rfl) ?_
                        exact hj70 false _ _ h (by exact ⟨e61_0, e61_1, e61_5, e61_6, e61_7, e61_9, e61_14, e61_15, rfl⟩)
                  · have h := h.2 hc63
                    refine Go.condF (btF rfl hc63) ?_
                    refine Go.exit rfl ?_
                    refine Go.seq ?_
                    refine Go.region rfl ?_
                    refine GoOps.q (v := .pointer y15) rfl rfl (by decide) (q_move e61_5) ?_
                    refine call_dst rfl (by decide) body17 (image_Image_Pending_s _ _ _ h) rfl ?_
                    rintro _ H155 ⟨y156, rfl, h⟩
                    refine GoOps.q (v := .int .i64 s59.1) rfl rfl (by decide) (q_move e61_14) ?_
                    refine GoOps.q (v := .bool (y156 != s59.1)) rfl rfl (by decide) (q_neq rfl rfl) ?_
                    refine GoOps.nil ?_
                    rcases bor (y156 != s59.1) with hc157 | hc157
                    · have h := h.1 hc157
                      refine Go.condT (btT rfl hc157) ?_
                      refine Go.seq ?_
                      refine Go.region rfl ?_
                      refine GoOps.q (v := .bool false) rfl rfl (by decide) (q_assign rfl) ?_
                      refine GoOps.nil ?_
                      exact Go.ret ⟨.inl rfl, _, _, DOk.nil, (resOk1 Try.results3 rfl), ⟨_, rfl, h⟩⟩
                    · have h := h.2 hc157
                      refine Go.condF (btF rfl hc157) ?_
                      refine Go.skip ?_
                      refine Go.inBlock ?_
                      refine Go.region rfl ?_
                      refine GoOps.q (v := .int .i64 s34) rfl rfl (by decide) (q_move e61_9) ?_
                      refine GoOps.q (v := .int .i64 (IntKind.wrap .i64 (s34 + 1))) rfl rfl (by decide) (q_add rfl rfl) ?_
                      refine GoOps.q (v := .int .i64 (IntKind.wrap .i64 (s34 + 1))) rfl rfl (by decide) (q_assign rfl) ?_
                      refine GoOps.nil ?_
                      exact hagain35 _ _ _ h ⟨e61_0, e61_1, e61_5, e61_6, e61_7, rfl⟩
                · intro j56 hj56 h
                  refine Go.block ?_
                  refine Go.seq ?_
                  refine Go.region rfl ?_
                  refine GoOps.q (v := .bool (x53 == 1)) rfl rfl (by decide) (q_eql rfl rfl) ?_
                  refine GoOps.q (v := .bool (x53 == 1)) rfl rfl (by decide) (q_assign rfl) ?_
                  refine GoOps.nil ?_
                  rcases bor (x53 == 1) with hc158 | hc158
                  · have h := h.1 hc158
                    refine Go.condT (btT rfl hc158) ?_
                    refine Go.seq ?_
                    refine Go.region rfl ?_
                    refine GoOps.q (v := .pointer y15) rfl rfl (by decide) (q_move e36_5) ?_
                    refine GoOps.q (v := .int .i64 y44) rfl rfl (by decide) (q_move rfl) ?_
                    refine GoOps.q (v := .int .i64 s34) rfl rfl (by decide) (q_move e36_9) ?_
                    refine GoOps.q (v := .int .i64 (IntKind.wrap .i64 (s34 + 1))) rfl rfl (by decide) (q_add rfl rfl) ?_
                    refine call_dst rfl (by decide) body9 (image_Image_Write_s _ _ _ _ _ h) rfl ?_
                    rintro _ H159 ⟨y160, y161, rfl, h⟩
                    refine GoOps.nil ?_
                    refine Go.region rfl ?_
                    refine GoOps.q (v := Sl.v r22) rfl rfl (by decide) (q_move e36_7) ?_
                    refine GoOps.q (v := .int .i64 y44) rfl rfl (by decide) (q_move rfl) ?_
                    refine GoOps.q (v := .int .i64 s34) rfl rfl (by decide) (q_move e36_9) ?_
                    refine GoOps.q (v := .int .i64 (IntKind.wrap .i64 (s34 + 1))) rfl rfl (by decide) (q_add rfl rfl) ?_
                    obtain ⟨a162, ha163, h⟩ := h
                    refine GoOps.q (v := .pointer (some a162)) rfl rfl (by decide) (q_idx slice26 ha163 rfl rfl) ?_
                    obtain ⟨q165b, q165o, q165c, q165e, hq165a, hq165b, hq165l, hq165v, h⟩ := h
                    refine op_none rfl rfl (do_store (vs := [.int .i64 (IntKind.wrap .i64 (s34 + 1))]) size3 (pta rfl hq165a) rfl rfl rfl hq165v hq165b hq165l ?_) 
                    refine GoOps.nil ?_
                    refine Go.inBlock ?_
                    exact hj56 _ _ _ h ⟨e36_0, e36_1, e36_5, e36_6, e36_7, e36_9⟩
                  · have h := h.2 hc158
                    refine Go.condF (btF rfl hc158) ?_
                    refine Go.seq ?_
                    refine Go.region rfl ?_
                    refine GoOps.q (v := .bool (x53 == 2)) rfl rfl (by decide) (q_eql rfl rfl) ?_
                    refine GoOps.q (v := .bool (x53 == 2)) rfl rfl (by decide) (q_assign rfl) ?_
                    refine GoOps.nil ?_
                    rcases bor (x53 == 2) with hc166 | hc166
                    · have h := h.1 hc166
                      refine Go.condT (btT rfl hc166) ?_
                      refine Go.seq ?_
                      refine Go.region rfl ?_
                      refine GoOps.q (v := .pointer y15) rfl rfl (by decide) (q_move e36_5) ?_
                      refine GoOps.q (v := .int .i64 y44) rfl rfl (by decide) (q_move rfl) ?_
                      refine GoOps.q (v := .int .i64 (IntKind.wrap .i64 (1 + y50))) rfl rfl (by decide) (q_move rfl) ?_
                      refine call_dst rfl (by decide) body10 (image_Image_Trim_s _ _ _ _ _ h) rfl ?_
                      rintro _ H167 ⟨y168, y169, rfl, h⟩
                      refine GoOps.nil ?_
                      refine Go.seq ?_
                      refine Go.region rfl ?_
                      refine GoOps.q (v := .int .i64 y44) rfl rfl (by decide) (q_move rfl) ?_
                      refine GoOps.q (v := .int .i64 y44) rfl rfl (by decide) (q_assign rfl) ?_
                      refine GoOps.nil ?_
                      refine Go.block ?_
                      refine loop_go (fun ρ (s170 : Int) => ρ 0 = .int .i64 p0 ∧ ρ 1 = Sl.v p1 ∧ ρ 5 = .pointer y15 ∧ ρ 6 = Sl.v r19 ∧ ρ 7 = Sl.v r22 ∧ ρ 9 = .int .i64 s34 ∧ ρ 10 = .int .i64 y44 ∧ ρ 11 = .int .i64 (IntKind.wrap .i64 (1 + y50)) ∧ ρ 12 = .int .i64 s170) h ⟨e36_0, e36_1, e36_5, e36_6, e36_7, e36_9, rfl, rfl, rfl⟩ ?_
                      clear h
                      intro ρ s170 H173 again171 hE h hagain171
                      obtain ⟨e172_0, e172_1, e172_5, e172_6, e172_7, e172_9, e172_10, e172_11, e172_12⟩ := hE
                      refine Go.seq ?_
                      refine Go.seq ?_
                      refine Go.region rfl ?_
                      refine GoOps.q (v := .int .i64 s170) rfl rfl (by decide) (q_move e172_12) ?_
                      refine GoOps.q (v := .int .i64 y44) rfl rfl (by decide) (q_move e172_10) ?_
                      refine GoOps.q (v := .int .i64 (IntKind.wrap .i64 (1 + y50))) rfl rfl (by decide) (q_move e172_11) ?_
                      refine GoOps.q (v := .int .i64 (IntKind.wrap .i64 (y44 + (IntKind.wrap .i64 (1 + y50))))) rfl rfl (by decide) (q_add rfl rfl) ?_
                      refine GoOps.q (v := .bool (decide (s170 < (IntKind.wrap .i64 (y44 + (IntKind.wrap .i64 (1 + y50))))))) rfl rfl (by decide) (q_lss rfl rfl) ?_
                      refine GoOps.nil ?_
                      rcases bor (decide (s170 < (IntKind.wrap .i64 (y44 + (IntKind.wrap .i64 (1 + y50)))))) with hc174 | hc174
                      · have h := h.1 hc174
                        refine Go.condT (btT rfl hc174) ?_
                        refine Go.skip ?_
                        refine Go.seq ?_
                        refine Go.block ?_
                        refine Go.region rfl ?_
                        refine GoOps.q (v := Sl.v r22) rfl rfl (by decide) (q_move e172_7) ?_
                        refine GoOps.q (v := .int .i64 s170) rfl rfl (by decide) (q_move e172_12) ?_
                        obtain ⟨a175, ha176, h⟩ := h
                        refine GoOps.q (v := .pointer (some a175)) rfl rfl (by decide) (q_idx slice26 ha176 rfl rfl) ?_
                        obtain ⟨q178b, q178o, q178c, q178e, hq178a, hq178b, hq178l, hq178v, h⟩ := h
                        refine op_none rfl rfl (do_store (vs := [.int .i64 0]) size3 (pta rfl hq178a) rfl rfl rfl hq178v hq178b hq178l ?_) 
                        refine GoOps.nil ?_
                        refine Go.inBlock ?_
                        refine Go.region rfl ?_
                        refine GoOps.q (v := .int .i64 s170) rfl rfl (by decide) (q_move e172_12) ?_
                        refine GoOps.q (v := .int .i64 (IntKind.wrap .i64 (s170 + 1))) rfl rfl (by decide) (q_add rfl rfl) ?_
                        refine GoOps.q (v := .int .i64 (IntKind.wrap .i64 (s170 + 1))) rfl rfl (by decide) (q_assign rfl) ?_
                        refine GoOps.nil ?_
                        exact hagain171 _ _ _ h ⟨e172_0, e172_1, e172_5, e172_6, e172_7, e172_9, e172_10, e172_11, rfl⟩
                      · have h := h.2 hc174
                        refine Go.condF (btF rfl hc174) ?_
                        refine Go.exit rfl ?_
                        refine Go.inBlock ?_
                        exact hj56 _ _ _ h ⟨e172_0, e172_1, e172_5, e172_6, e172_7, e172_9⟩
                    · have h := h.2 hc166
                      refine Go.condF (btF rfl hc166) ?_
                      refine Go.seq ?_
                      refine Go.region rfl ?_
                      refine GoOps.q (v := .bool (x53 == 3)) rfl rfl (by decide) (q_eql rfl rfl) ?_
                      refine GoOps.q (v := .bool (x53 == 3)) rfl rfl (by decide) (q_assign rfl) ?_
                      refine GoOps.nil ?_
                      rcases bor (x53 == 3) with hc179 | hc179
                      · have h := h.1 hc179
                        refine Go.condT (btT rfl hc179) ?_
                        refine Go.region rfl ?_
                        refine GoOps.q (v := .pointer y15) rfl rfl (by decide) (q_move e36_5) ?_
                        refine call_dst rfl (by decide) body11 (image_Image_Commit_s _ _ _ h) rfl ?_
                        rintro _ H180 ⟨y181, rfl, h⟩
                        refine GoOps.nil ?_
                        refine Go.inBlock ?_
                        exact hj56 _ _ _ h ⟨e36_0, e36_1, e36_5, e36_6, e36_7, e36_9⟩
                      · have h := h.2 hc179
                        refine Go.condF (btF rfl hc179) ?_
                        refine Go.seq ?_
                        refine Go.region rfl ?_
                        refine GoOps.q (v := .bool (x53 == 4)) rfl rfl (by decide) (q_eql rfl rfl) ?_
                        refine GoOps.q (v := .bool (x53 == 4)) rfl rfl (by decide) (q_assign rfl) ?_
                        refine GoOps.nil ?_
                        rcases bor (x53 == 4) with hc182 | hc182
                        · have h := h.1 hc182
                          refine Go.condT (btT rfl hc182) ?_
                          refine Go.region rfl ?_
                          refine GoOps.q (v := .pointer y15) rfl rfl (by decide) (q_move e36_5) ?_
                          refine call_dst rfl (by decide) body12 (image_Image_Forget_s _ _ _ h) rfl ?_
                          rintro _ H183 ⟨y184, rfl, h⟩
                          refine GoOps.nil ?_
                          refine Go.inBlock ?_
                          exact hj56 _ _ _ h ⟨e36_0, e36_1, e36_5, e36_6, e36_7, e36_9⟩
                        · have h := h.2 hc182
                          refine Go.condF (btF rfl hc182) ?_
                          refine Go.seq ?_
                          refine Go.region rfl ?_
                          refine GoOps.q (v := .bool (x53 == 5)) rfl rfl (by decide) (q_eql rfl rfl) ?_
                          refine GoOps.q (v := .bool (x53 == 5)) rfl rfl (by decide) (q_assign rfl) ?_
                          refine GoOps.nil ?_
                          rcases bor (x53 == 5) with hc185 | hc185
                          · have h := h.1 hc185
                            refine Go.condT (btT rfl hc185) ?_
                            refine Go.seq ?_
                            refine Go.region rfl ?_
                            refine GoOps.q (v := .pointer y15) rfl rfl (by decide) (q_move e36_5) ?_
                            refine GoOps.q (v := .int .i64 y44) rfl rfl (by decide) (q_move rfl) ?_
                            refine GoOps.q (v := .int .i64 s34) rfl rfl (by decide) (q_move e36_9) ?_
                            refine GoOps.q (v := .int .i64 (IntKind.wrap .i64 (s34 + 1))) rfl rfl (by decide) (q_add rfl rfl) ?_
                            refine call_dst rfl (by decide) body13 (image_Image_Put_s _ _ _ _ _ h) rfl ?_
                            rintro _ H186 ⟨y187, y188, rfl, h⟩
                            refine GoOps.nil ?_
                            refine Go.region rfl ?_
                            refine GoOps.q (v := Sl.v r19) rfl rfl (by decide) (q_move e36_6) ?_
                            refine GoOps.q (v := .int .i64 y44) rfl rfl (by decide) (q_move rfl) ?_
                            refine GoOps.q (v := .int .i64 s34) rfl rfl (by decide) (q_move e36_9) ?_
                            refine GoOps.q (v := .int .i64 (IntKind.wrap .i64 (s34 + 1))) rfl rfl (by decide) (q_add rfl rfl) ?_
                            obtain ⟨a189, ha190, h⟩ := h
                            refine GoOps.q (v := .pointer (some a189)) rfl rfl (by decide) (q_idx slice26 ha190 rfl rfl) ?_
                            obtain ⟨q192b, q192o, q192c, q192e, hq192a, hq192b, hq192l, hq192v, h⟩ := h
                            refine op_none rfl rfl (do_store (vs := [.int .i64 (IntKind.wrap .i64 (s34 + 1))]) size3 (pta rfl hq192a) rfl rfl rfl hq192v hq192b hq192l ?_) 
                            refine GoOps.nil ?_
                            refine Go.inBlock ?_
                            exact hj56 _ _ _ h ⟨e36_0, e36_1, e36_5, e36_6, e36_7, e36_9⟩
                          · have h := h.2 hc185
                            refine Go.condF (btF rfl hc185) ?_
                            refine Go.seq ?_
                            refine Go.region rfl ?_
                            refine GoOps.q (v := .bool (x53 == 6)) rfl rfl (by decide) (q_eql rfl rfl) ?_
                            refine GoOps.q (v := .bool (x53 == 6)) rfl rfl (by decide) (q_assign rfl) ?_
                            refine GoOps.nil ?_
                            rcases bor (x53 == 6) with hc193 | hc193
                            · have h := h.1 hc193
                              refine Go.condT (btT rfl hc193) ?_
                              refine Go.seq ?_
                              refine Go.region rfl ?_
                              refine GoOps.q (v := .pointer y15) rfl rfl (by decide) (q_move e36_5) ?_
                              refine GoOps.q (v := .int .i64 y44) rfl rfl (by decide) (q_move rfl) ?_
                              refine GoOps.q (v := .int .i64 (IntKind.wrap .i64 (1 + y50))) rfl rfl (by decide) (q_move rfl) ?_
                              refine call_dst rfl (by decide) body14 (image_Image_Drop_s _ _ _ _ _ h) rfl ?_
                              rintro _ H194 ⟨y195, y196, rfl, h⟩
                              refine GoOps.nil ?_
                              refine Go.seq ?_
                              refine Go.region rfl ?_
                              refine GoOps.q (v := .int .i64 y44) rfl rfl (by decide) (q_move rfl) ?_
                              refine GoOps.q (v := .int .i64 y44) rfl rfl (by decide) (q_assign rfl) ?_
                              refine GoOps.nil ?_
                              refine Go.block ?_
                              refine loop_go (fun ρ (s197 : Int) => ρ 0 = .int .i64 p0 ∧ ρ 1 = Sl.v p1 ∧ ρ 5 = .pointer y15 ∧ ρ 6 = Sl.v r19 ∧ ρ 7 = Sl.v r22 ∧ ρ 9 = .int .i64 s34 ∧ ρ 10 = .int .i64 y44 ∧ ρ 11 = .int .i64 (IntKind.wrap .i64 (1 + y50)) ∧ ρ 13 = .int .i64 s197) h ⟨e36_0, e36_1, e36_5, e36_6, e36_7, e36_9, rfl, rfl, rfl⟩ ?_
                              clear h
                              intro ρ s197 H200 again198 hE h hagain198
                              obtain ⟨e199_0, e199_1, e199_5, e199_6, e199_7, e199_9, e199_10, e199_11, e199_13⟩ := hE
                              refine Go.seq ?_
                              refine Go.seq ?_
                              refine Go.region rfl ?_
                              refine GoOps.q (v := .int .i64 s197) rfl rfl (by decide) (q_move e199_13) ?_
                              refine GoOps.q (v := .int .i64 y44) rfl rfl (by decide) (q_move e199_10) ?_
                              refine GoOps.q (v := .int .i64 (IntKind.wrap .i64 (1 + y50))) rfl rfl (by decide) (q_move e199_11) ?_
                              refine GoOps.q (v := .int .i64 (IntKind.wrap .i64 (y44 + (IntKind.wrap .i64 (1 + y50))))) rfl rfl (by decide) (q_add rfl rfl) ?_
                              refine GoOps.q (v := .bool (decide (s197 < (IntKind.wrap .i64 (y44 + (IntKind.wrap .i64 (1 + y50))))))) rfl rfl (by decide) (q_lss rfl rfl) ?_
                              refine GoOps.nil ?_
                              rcases bor (decide (s197 < (IntKind.wrap .i64 (y44 + (IntKind.wrap .i64 (1 + y50)))))) with hc201 | hc201
                              · have h := h.1 hc201
                                refine Go.condT (btT rfl hc201) ?_
                                refine Go.skip ?_
                                refine Go.seq ?_
                                refine Go.block ?_
                                refine Go.region rfl ?_
                                refine GoOps.q (v := Sl.v r19) rfl rfl (by decide) (q_move e199_6) ?_
                                refine GoOps.q (v := .int .i64 s197) rfl rfl (by decide) (q_move e199_13) ?_
                                obtain ⟨a202, ha203, h⟩ := h
                                refine GoOps.q (v := .pointer (some a202)) rfl rfl (by decide) (q_idx slice26 ha203 rfl rfl) ?_
                                obtain ⟨q205b, q205o, q205c, q205e, hq205a, hq205b, hq205l, hq205v, h⟩ := h
                                refine op_none rfl rfl (do_store (vs := [.int .i64 0]) size3 (pta rfl hq205a) rfl rfl rfl hq205v hq205b hq205l ?_) 
                                refine GoOps.nil ?_
                                refine Go.inBlock ?_
                                refine Go.region rfl ?_
                                refine GoOps.q (v := .int .i64 s197) rfl rfl (by decide) (q_move e199_13) ?_
                                refine GoOps.q (v := .int .i64 (IntKind.wrap .i64 (s197 + 1))) rfl rfl (by decide) (q_add rfl rfl) ?_
                                refine GoOps.q (v := .int .i64 (IntKind.wrap .i64 (s197 + 1))) rfl rfl (by decide) (q_assign rfl) ?_
                                refine GoOps.nil ?_
                                exact hagain198 _ _ _ h ⟨e199_0, e199_1, e199_5, e199_6, e199_7, e199_9, e199_10, e199_11, rfl⟩
                              · have h := h.2 hc201
                                refine Go.condF (btF rfl hc201) ?_
                                refine Go.exit rfl ?_
                                refine Go.inBlock ?_
                                exact hj56 _ _ _ h ⟨e199_0, e199_1, e199_5, e199_6, e199_7, e199_9⟩
                            · have h := h.2 hc193
                              refine Go.condF (btF rfl hc193) ?_
                              refine Go.skip ?_
                              refine Go.inBlock ?_
                              exact hj56 _ _ _ h ⟨e36_0, e36_1, e36_5, e36_6, e36_7, e36_9⟩
              · have h := h.2 hc38
                refine Go.condF (btF rfl hc38) ?_
                refine Go.exit rfl ?_
                refine Go.seq ?_
                refine Go.region rfl ?_
                refine call_dst rfl (by decide) body6 (keelsonlaw16_awake_s _ _ h) rfl ?_
                rintro _ H206 ⟨y207, rfl, h⟩
                refine GoOps.q (v := .bool y207) rfl rfl (by decide) (q_assign rfl) ?_
                refine GoOps.nil ?_
                exact Go.ret ⟨.inl rfl, _, _, DOk.nil, (resOk1 Try.results3 rfl), ⟨_, rfl, h⟩⟩
          · refine pstep_yes (S2 := 13) rfl (by decide +kernel) (by decide) rfl ?_
            refine do_mkT (zs := [.int .i64 0]) slice26 bytes3 (by decide) zero3 rfl rfl (by decide) rfl rfl hm18 fun b209 r208 hHb209 hTb209 hrb209 => ?_
            refine ⟨_, rfl, ?_⟩
            refine plan_one (j := 1) (S2 := 15) (by decide +kernel) rfl (by decide) rfl ?_
            refine do_mk (zs := [.int .i64 0]) slice26 bytes3 (by decide) zero3 rfl rfl (by decide) rfl rfl hm17 fun r210 H211 hb212 => ?_
            have h := h r210 H211 hb212
            refine ⟨_, rfl, ?_⟩
            refine plan_pure (i := 4) (d := 6) (S2 := 31) (v := Sl.v r210) rfl (by decide +kernel) rfl (q_assign rfl) ?_
            refine plan_commit hTb209 fun hh214 => ?_
            have h := h r208 _ ⟨b209, hh214, hrb209, rfl⟩
            refine plan_pure (i := 5) (d := 7) (S2 := 63) (v := Sl.v r208) rfl (by decide +kernel) rfl (q_assign rfl) ?_
            refine plan_done (by decide +kernel) ?_
            refine Go.seq ?_
            refine Go.seq ?_
            refine Go.region rfl ?_
            refine GoOps.q (v := .int .i64 0) rfl rfl (by decide) (q_assign rfl) ?_
            refine GoOps.nil ?_
            refine Go.block ?_
            refine loop_go (fun ρ (s215 : Int) => ρ 0 = .int .i64 p0 ∧ ρ 1 = Sl.v p1 ∧ ρ 5 = .pointer y15 ∧ ρ 6 = Sl.v r210 ∧ ρ 7 = Sl.v r208 ∧ ρ 8 = .int .i64 s215) h ⟨e10_0, e10_1, rfl, rfl, rfl, rfl⟩ ?_
            clear h
            intro ρ s215 H218 again216 hE h hagain216
            obtain ⟨e217_0, e217_1, e217_5, e217_6, e217_7, e217_8⟩ := hE
            refine Go.seq ?_
            refine Go.seq ?_
            refine Go.region rfl ?_
            refine GoOps.q (v := .int .i64 s215) rfl rfl (by decide) (q_move e217_8) ?_
            refine GoOps.q (v := .int .i64 p0) rfl rfl (by decide) (q_move e217_0) ?_
            refine GoOps.q (v := .bool (decide (s215 < p0))) rfl rfl (by decide) (q_lss rfl rfl) ?_
            refine GoOps.nil ?_
            rcases bor (decide (s215 < p0)) with hc219 | hc219
            · have h := h.1 hc219
              refine Go.condT (btT rfl hc219) ?_
              refine Go.skip ?_
              refine Go.seq ?_
              refine Go.block ?_
              refine Go.region rfl ?_
              refine GoOps.q (v := Sl.v r208) rfl rfl (by decide) (q_move e217_7) ?_
              refine GoOps.q (v := .int .i64 s215) rfl rfl (by decide) (q_move e217_8) ?_
              obtain ⟨a220, ha221, h⟩ := h
              refine GoOps.q (v := .pointer (some a220)) rfl rfl (by decide) (q_idx slice26 ha221 rfl rfl) ?_
              obtain ⟨q223b, q223o, q223c, q223e, hq223a, hq223b, hq223l, hq223v, h⟩ := h
              refine op_none rfl rfl (do_store (vs := [.int .i64 (-1)]) size3 (pta rfl hq223a) rfl rfl rfl hq223v hq223b hq223l ?_) 
              refine GoOps.nil ?_
              refine Go.inBlock ?_
              refine Go.region rfl ?_
              refine GoOps.q (v := .int .i64 s215) rfl rfl (by decide) (q_move e217_8) ?_
              refine GoOps.q (v := .int .i64 (IntKind.wrap .i64 (s215 + 1))) rfl rfl (by decide) (q_add rfl rfl) ?_
              refine GoOps.q (v := .int .i64 (IntKind.wrap .i64 (s215 + 1))) rfl rfl (by decide) (q_assign rfl) ?_
              refine GoOps.nil ?_
              exact hagain216 _ _ _ h ⟨e217_0, e217_1, e217_5, e217_6, e217_7, rfl⟩
            · have h := h.2 hc219
              refine Go.condF (btF rfl hc219) ?_
              refine Go.exit rfl ?_
              refine Go.seq ?_
              refine Go.seq ?_
              refine Go.region rfl ?_
              refine GoOps.q (v := .int .i64 0) rfl rfl (by decide) (q_assign rfl) ?_
              refine GoOps.nil ?_
              refine Go.block ?_
              refine loop_go (fun ρ (s224 : Int) => ρ 0 = .int .i64 p0 ∧ ρ 1 = Sl.v p1 ∧ ρ 5 = .pointer y15 ∧ ρ 6 = Sl.v r210 ∧ ρ 7 = Sl.v r208 ∧ ρ 9 = .int .i64 s224) h ⟨e217_0, e217_1, e217_5, e217_6, e217_7, rfl⟩ ?_
              clear h
              intro ρ s224 H227 again225 hE h hagain225
              obtain ⟨e226_0, e226_1, e226_5, e226_6, e226_7, e226_9⟩ := hE
              refine Go.seq ?_
              refine Go.seq ?_
              refine Go.region rfl ?_
              refine GoOps.q (v := .int .i64 s224) rfl rfl (by decide) (q_move e226_9) ?_
              refine GoOps.q (v := Sl.v p1) rfl rfl (by decide) (q_move e226_1) ?_
              refine GoOps.q (v := .int .i64 (p1.len : Int)) rfl rfl (by decide) (q_len Try.underlying22 rfl (ls1 rfl)) ?_
              refine GoOps.q (v := .bool (decide (s224 < (p1.len : Int)))) rfl rfl (by decide) (q_lss rfl rfl) ?_
              refine GoOps.nil ?_
              rcases bor (decide (s224 < (p1.len : Int))) with hc228 | hc228
              · have h := h.1 hc228
                refine Go.condT (btT rfl hc228) ?_
                refine Go.skip ?_
                refine Go.seq ?_
                refine Go.block ?_
                refine Go.seq ?_
                refine Go.region rfl ?_
                refine GoOps.q (v := Sl.v p1) rfl rfl (by decide) (q_move e226_1) ?_
                refine GoOps.q (v := .int .i64 s224) rfl rfl (by decide) (q_move e226_9) ?_
                obtain ⟨a229, ha230, h⟩ := h
                refine GoOps.q (v := .pointer (some a229)) rfl rfl (by decide) (q_idx slice22 ha230 rfl rfl) ?_
                refine GoOps.q (v := .pointer (some (a229.add 1))) rfl rfl (by decide) (q_fieldAddr foff29_1 rfl) ?_
                obtain ⟨x231, hx232, h⟩ := h
                refine GoOps.q (v := .int .i64 x231) rfl rfl (by decide) (q_load scalar3 rfl hx232) ?_
                refine GoOps.q (v := .int .i64 p0) rfl rfl (by decide) (q_move e226_0) ?_
                refine call_dst rfl (by decide) body8 (keelsonalike_Round_s _ _ _ _ h) rfl ?_
                rintro _ H233 ⟨y234, rfl, h⟩
                refine GoOps.q (v := .int .i64 y234) rfl rfl (by decide) (q_assign rfl) ?_
                refine GoOps.nil ?_
                refine Go.seq ?_
                refine Go.region rfl ?_
                refine GoOps.q (v := Sl.v p1) rfl rfl (by decide) (q_move e226_1) ?_
                refine GoOps.q (v := .int .i64 s224) rfl rfl (by decide) (q_move e226_9) ?_
                obtain ⟨a235, ha236, h⟩ := h
                refine GoOps.q (v := .pointer (some a235)) rfl rfl (by decide) (q_idx slice22 ha236 rfl rfl) ?_
                refine GoOps.q (v := .pointer (some (a235.add 2))) rfl rfl (by decide) (q_fieldAddr foff29_2 rfl) ?_
                obtain ⟨x237, hx238, h⟩ := h
                refine GoOps.q (v := .int .i64 x237) rfl rfl (by decide) (q_load scalar3 rfl hx238) ?_
                refine GoOps.q (v := .int .i64 p0) rfl rfl (by decide) (q_move e226_0) ?_
                refine GoOps.q (v := .int .i64 y234) rfl rfl (by decide) (q_move rfl) ?_
                refine GoOps.q (v := .int .i64 (IntKind.wrap .i64 (p0 - y234))) rfl rfl (by decide) (q_sub rfl rfl) ?_
                refine call_dst rfl (by decide) body8 (keelsonalike_Round_s _ _ _ _ h) rfl ?_
                rintro _ H239 ⟨y240, rfl, h⟩
                refine GoOps.q (v := .int .i64 (IntKind.wrap .i64 (1 + y240))) rfl rfl (by decide) (q_add rfl rfl) ?_
                refine GoOps.q (v := .int .i64 (IntKind.wrap .i64 (1 + y240))) rfl rfl (by decide) (q_assign rfl) ?_
                refine GoOps.nil ?_
                refine Go.seq ?_
                refine Go.seq ?_
                refine Go.region rfl ?_
                refine GoOps.q (v := Sl.v p1) rfl rfl (by decide) (q_move e226_1) ?_
                refine GoOps.q (v := .int .i64 s224) rfl rfl (by decide) (q_move e226_9) ?_
                obtain ⟨a241, ha242, h⟩ := h
                refine GoOps.q (v := .pointer (some a241)) rfl rfl (by decide) (q_idx slice22 ha242 rfl rfl) ?_
                refine GoOps.q (v := .pointer (some (a241.add 0))) rfl rfl (by decide) (q_fieldAddr foff29_0 rfl) ?_
                obtain ⟨x243, hx244, h⟩ := h
                refine GoOps.q (v := .int .i64 x243) rfl rfl (by decide) (q_load scalar3 rfl hx244) ?_
                refine GoOps.nil ?_
                refine join_go 1 (fun ρ (s245 : Unit) => ρ 0 = .int .i64 p0 ∧ ρ 1 = Sl.v p1 ∧ ρ 5 = .pointer y15 ∧ ρ 6 = Sl.v r210 ∧ ρ 7 = Sl.v r208 ∧ ρ 9 = .int .i64 s224) h ?_ ?_ <;> clear h
                · intro s245 H247 ρ h hE
                  obtain ⟨e248_0, e248_1, e248_5, e248_6, e248_7, e248_9⟩ := hE
                  refine Go.seq ?_
                  refine Go.region rfl ?_
                  refine GoOps.q (v := .int .i64 0) rfl rfl (by decide) (q_assign rfl) ?_
                  refine GoOps.nil ?_
                  refine Go.seq ?_
                  refine Go.seq ?_
                  refine Go.region rfl ?_
                  refine GoOps.q (v := .int .i64 0) rfl rfl (by decide) (q_assign rfl) ?_
                  refine GoOps.nil ?_
                  refine Go.block ?_
                  refine loop_go (fun ρ (s249 : Int × Int) => ρ 0 = .int .i64 p0 ∧ ρ 1 = Sl.v p1 ∧ ρ 5 = .pointer y15 ∧ ρ 6 = Sl.v r210 ∧ ρ 7 = Sl.v r208 ∧ ρ 9 = .int .i64 s224 ∧ ρ 14 = .int .i64 s249.1 ∧ ρ 15 = .int .i64 s249.2) h ⟨e248_0, e248_1, e248_5, e248_6, e248_7, e248_9, rfl, rfl⟩ ?_
                  clear h
                  intro ρ s249 H252 again250 hE h hagain250
                  obtain ⟨e251_0, e251_1, e251_5, e251_6, e251_7, e251_9, e251_14, e251_15⟩ := hE
                  refine Go.seq ?_
                  refine Go.seq ?_
                  refine Go.region rfl ?_
                  refine GoOps.q (v := .int .i64 s249.2) rfl rfl (by decide) (q_move e251_15) ?_
                  refine GoOps.q (v := .int .i64 p0) rfl rfl (by decide) (q_move e251_0) ?_
                  refine GoOps.q (v := .bool (decide (s249.2 < p0))) rfl rfl (by decide) (q_lss rfl rfl) ?_
                  refine GoOps.nil ?_
                  rcases bor (decide (s249.2 < p0)) with hc253 | hc253
                  · have h := h.1 hc253
                    refine Go.condT (btT rfl hc253) ?_
                    refine Go.skip ?_
                    refine Go.seq ?_
                    refine Go.block ?_
                    refine Go.seq ?_
                    refine Go.seq ?_
                    refine Go.region rfl ?_
                    refine GoOps.q (v := Sl.v r208) rfl rfl (by decide) (q_move e251_7) ?_
                    refine GoOps.q (v := .int .i64 s249.2) rfl rfl (by decide) (q_move e251_15) ?_
                    obtain ⟨a254, ha255, h⟩ := h
                    refine GoOps.q (v := .pointer (some a254)) rfl rfl (by decide) (q_idx slice26 ha255 rfl rfl) ?_
                    obtain ⟨x256, hx257, h⟩ := h
                    refine GoOps.q (v := .int .i64 x256) rfl rfl (by decide) (q_load scalar3 rfl hx257) ?_
                    refine GoOps.q (v := .bool (decide (0 ≤ x256))) rfl rfl (by decide) (q_geq rfl rfl) ?_
                    refine GoOps.q (v := .bool (decide (0 ≤ x256))) rfl rfl (by decide) (q_move rfl) ?_
                    refine join_ops 7 (fun ρ (s259 : Bool) => ρ 0 = .int .i64 p0 ∧ ρ 1 = Sl.v p1 ∧ ρ 5 = .pointer y15 ∧ ρ 6 = Sl.v r210 ∧ ρ 7 = Sl.v r208 ∧ ρ 9 = .int .i64 s224 ∧ ρ 14 = .int .i64 s249.1 ∧ ρ 15 = .int .i64 s249.2 ∧ ρ 160 = .bool s259) h ?_ ?_ <;> clear h
                    · intro s259 H261 ρ h hE
                      obtain ⟨e262_0, e262_1, e262_5, e262_6, e262_7, e262_9, e262_14, e262_15, e262_160⟩ := hE
                      refine GoOps.nil ?_
                      refine join_go 1 (fun ρ (s263 : Unit) => ρ 0 = .int .i64 p0 ∧ ρ 1 = Sl.v p1 ∧ ρ 5 = .pointer y15 ∧ ρ 6 = Sl.v r210 ∧ ρ 7 = Sl.v r208 ∧ ρ 9 = .int .i64 s224 ∧ ρ 14 = .int .i64 s249.1 ∧ ρ 15 = .int .i64 s249.2) h ?_ ?_ <;> clear h
                      · intro s263 H265 ρ h hE
                        obtain ⟨e266_0, e266_1, e266_5, e266_6, e266_7, e266_9, e266_14, e266_15⟩ := hE
                        refine Go.seq ?_
                        refine Go.seq ?_
                        refine Go.region rfl ?_
                        refine GoOps.q (v := Sl.v p1) rfl rfl (by decide) (q_move e266_1) ?_
                        refine GoOps.q (v := .int .i64 s224) rfl rfl (by decide) (q_move e266_9) ?_
                        obtain ⟨a267, ha268, h⟩ := h
                        refine GoOps.q (v := .pointer (some a267)) rfl rfl (by decide) (q_idx slice22 ha268 rfl rfl) ?_
                        refine GoOps.q (v := .pointer (some (a267.add 0))) rfl rfl (by decide) (q_fieldAddr foff29_0 rfl) ?_
                        obtain ⟨x269, hx270, h⟩ := h
                        refine GoOps.q (v := .int .i64 x269) rfl rfl (by decide) (q_load scalar3 rfl hx270) ?_
                        refine GoOps.q (v := .bool (x269 == 3)) rfl rfl (by decide) (q_eql rfl rfl) ?_
                        refine GoOps.q (v := .bool (x269 == 3)) rfl rfl (by decide) (q_move rfl) ?_
                        refine join_ops 7 (fun ρ (s272 : Bool) => ρ 0 = .int .i64 p0 ∧ ρ 1 = Sl.v p1 ∧ ρ 5 = .pointer y15 ∧ ρ 6 = Sl.v r210 ∧ ρ 7 = Sl.v r208 ∧ ρ 9 = .int .i64 s224 ∧ ρ 14 = .int .i64 s249.1 ∧ ρ 15 = .int .i64 s249.2 ∧ ρ 181 = .bool s272) h ?_ ?_ <;> clear h
                        · intro s272 H274 ρ h hE
                          obtain ⟨e275_0, e275_1, e275_5, e275_6, e275_7, e275_9, e275_14, e275_15, e275_181⟩ := hE
                          refine GoOps.nil ?_
                          refine join_go 1 (fun ρ (s276 : Unit) => ρ 0 = .int .i64 p0 ∧ ρ 1 = Sl.v p1 ∧ ρ 5 = .pointer y15 ∧ ρ 6 = Sl.v r210 ∧ ρ 7 = Sl.v r208 ∧ ρ 9 = .int .i64 s224 ∧ ρ 14 = .int .i64 s249.1 ∧ ρ 15 = .int .i64 s249.2) h ?_ ?_ <;> clear h
                          · intro s276 H278 ρ h hE
                            obtain ⟨e279_0, e279_1, e279_5, e279_6, e279_7, e279_9, e279_14, e279_15⟩ := hE
                            refine Go.seq ?_
                            refine Go.region rfl ?_
                            refine GoOps.q (v := Sl.v r210) rfl rfl (by decide) (q_move e279_6) ?_
                            refine GoOps.q (v := .int .i64 s249.2) rfl rfl (by decide) (q_move e279_15) ?_
                            obtain ⟨a280, ha281, h⟩ := h
                            refine GoOps.q (v := .pointer (some a280)) rfl rfl (by decide) (q_idx slice26 ha281 rfl rfl) ?_
                            obtain ⟨x282, hx283, h⟩ := h
                            refine GoOps.q (v := .int .i64 x282) rfl rfl (by decide) (q_load scalar3 rfl hx283) ?_
                            refine GoOps.q (v := .int .i64 x282) rfl rfl (by decide) (q_assign rfl) ?_
                            refine GoOps.nil ?_
                            refine Go.seq ?_
                            refine Go.seq ?_
                            refine Go.region rfl ?_
                            refine GoOps.q (v := Sl.v r208) rfl rfl (by decide) (q_move e279_7) ?_
                            refine GoOps.q (v := .int .i64 s249.2) rfl rfl (by decide) (q_move e279_15) ?_
                            obtain ⟨a284, ha285, h⟩ := h
                            refine GoOps.q (v := .pointer (some a284)) rfl rfl (by decide) (q_idx slice26 ha285 rfl rfl) ?_
                            obtain ⟨x286, hx287, h⟩ := h
                            refine GoOps.q (v := .int .i64 x286) rfl rfl (by decide) (q_load scalar3 rfl hx287) ?_
                            refine GoOps.q (v := .bool (decide (0 ≤ x286))) rfl rfl (by decide) (q_geq rfl rfl) ?_
                            refine GoOps.nil ?_
                            refine join_go 1 (fun ρ (s288 : Int × Int) => ρ 0 = .int .i64 p0 ∧ ρ 1 = Sl.v p1 ∧ ρ 5 = .pointer y15 ∧ ρ 6 = Sl.v r210 ∧ ρ 7 = Sl.v r208 ∧ ρ 9 = .int .i64 s224 ∧ ρ 14 = .int .i64 s288.1 ∧ ρ 15 = .int .i64 s249.2 ∧ ρ 16 = .int .i64 s288.2) h ?_ ?_ <;> clear h
                            · intro s288 H290 ρ h hE
                              obtain ⟨e291_0, e291_1, e291_5, e291_6, e291_7, e291_9, e291_14, e291_15, e291_16⟩ := hE
                              refine Go.seq ?_
                              refine Go.region rfl ?_
                              refine GoOps.q (v := .pointer y15) rfl rfl (by decide) (q_move e291_5) ?_
                              refine GoOps.q (v := .int .i64 s249.2) rfl rfl (by decide) (q_move e291_15) ?_
                              refine call_dst rfl (by decide) body15 (image_Image_Ref_s _ _ _ _ h) rfl ?_
                              rintro _ H292 ⟨y293, y294, rfl, h⟩
                              refine GoOps.q (v := .tuple #[.int .i64 y293, .bool y294]) rfl rfl (by decide) (q_move rfl) ?_
                              refine GoOps.q (v := .int .i64 y293) rfl rfl (by decide) (q_extract rfl rfl) ?_
                              refine GoOps.q (v := .bool y294) rfl rfl (by decide) (q_extract rfl rfl) ?_
                              refine GoOps.q (v := .int .i64 y293) rfl rfl (by decide) (q_assign rfl) ?_
                              refine GoOps.q (v := .bool y294) rfl rfl (by decide) (q_assign rfl) ?_
                              refine GoOps.nil ?_
                              refine Go.seq ?_
                              refine Go.region rfl ?_
                              refine GoOps.q (v := .pointer y15) rfl rfl (by decide) (q_move e291_5) ?_
                              refine GoOps.q (v := .int .i64 s249.2) rfl rfl (by decide) (q_move e291_15) ?_
                              refine call_dst rfl (by decide) body16 (image_Image_Look_s _ _ _ _ h) rfl ?_
                              rintro _ H295 ⟨y296, y297, rfl, h⟩
                              refine GoOps.q (v := .tuple #[.int .i64 y296, .bool y297]) rfl rfl (by decide) (q_move rfl) ?_
                              refine GoOps.q (v := .int .i64 y296) rfl rfl (by decide) (q_extract rfl rfl) ?_
                              refine GoOps.q (v := .bool y297) rfl rfl (by decide) (q_extract rfl rfl) ?_
                              refine GoOps.q (v := .int .i64 y296) rfl rfl (by decide) (q_assign rfl) ?_
                              refine GoOps.q (v := .bool y297) rfl rfl (by decide) (q_assign rfl) ?_
                              refine GoOps.nil ?_
                              refine Go.seq ?_
                              refine Go.region rfl ?_
                              refine GoOps.q (v := .bool y294) rfl rfl (by decide) (q_move rfl) ?_
                              refine GoOps.q (v := .bool (!y294)) rfl rfl (by decide) (q_not rfl) ?_
                              refine GoOps.q (v := .bool (!y294)) rfl rfl (by decide) (q_move rfl) ?_
                              refine join_ops 3 (fun ρ (s299 : Bool) => ρ 0 = .int .i64 p0 ∧ ρ 1 = Sl.v p1 ∧ ρ 5 = .pointer y15 ∧ ρ 6 = Sl.v r210 ∧ ρ 7 = Sl.v r208 ∧ ρ 9 = .int .i64 s224 ∧ ρ 14 = .int .i64 s288.1 ∧ ρ 15 = .int .i64 s249.2 ∧ ρ 16 = .int .i64 s288.2 ∧ ρ 17 = .int .i64 y293 ∧ ρ 19 = .int .i64 y296 ∧ ρ 217 = .bool s299) h ?_ ?_ <;> clear h
                              · intro s299 H301 ρ h hE
                                obtain ⟨e302_0, e302_1, e302_5, e302_6, e302_7, e302_9, e302_14, e302_15, e302_16, e302_17, e302_19, e302_217⟩ := hE
                                refine GoOps.q (v := .bool s299) rfl rfl (by decide) (q_move e302_217) ?_
                                refine join_ops 7 (fun ρ (s304 : Bool) => ρ 0 = .int .i64 p0 ∧ ρ 1 = Sl.v p1 ∧ ρ 5 = .pointer y15 ∧ ρ 6 = Sl.v r210 ∧ ρ 7 = Sl.v r208 ∧ ρ 9 = .int .i64 s224 ∧ ρ 14 = .int .i64 s288.1 ∧ ρ 15 = .int .i64 s249.2 ∧ ρ 16 = .int .i64 s288.2 ∧ ρ 19 = .int .i64 y296 ∧ ρ 225 = .bool s304) h ?_ ?_ <;> clear h
                                · intro s304 H306 ρ h hE
                                  obtain ⟨e307_0, e307_1, e307_5, e307_6, e307_7, e307_9, e307_14, e307_15, e307_16, e307_19, e307_225⟩ := hE
                                  refine GoOps.q (v := .bool s304) rfl rfl (by decide) (q_move e307_225) ?_
                                  refine join_ops 4 (fun ρ (s309 : Bool) => ρ 0 = .int .i64 p0 ∧ ρ 1 = Sl.v p1 ∧ ρ 5 = .pointer y15 ∧ ρ 6 = Sl.v r210 ∧ ρ 7 = Sl.v r208 ∧ ρ 9 = .int .i64 s224 ∧ ρ 14 = .int .i64 s288.1 ∧ ρ 15 = .int .i64 s249.2 ∧ ρ 230 = .bool s309) h ?_ ?_ <;> clear h
                                  · intro s309 H311 ρ h hE
                                    obtain ⟨e312_0, e312_1, e312_5, e312_6, e312_7, e312_9, e312_14, e312_15, e312_230⟩ := hE
                                    refine GoOps.nil ?_
                                    rcases bor s309 with hc313 | hc313
                                    · have h := h.1 hc313
                                      refine Go.condT (btT e312_230 hc313) ?_
                                      refine Go.seq ?_
                                      refine Go.region rfl ?_
                                      refine GoOps.q (v := .bool false) rfl rfl (by decide) (q_assign rfl) ?_
                                      refine GoOps.nil ?_
                                      exact Go.ret ⟨.inl rfl, _, _, DOk.nil, (resOk1 Try.results3 rfl), ⟨_, rfl, h⟩⟩
                                    · have h := h.2 hc313
                                      refine Go.condF (btF e312_230 hc313) ?_
                                      refine Go.skip ?_
                                      refine Go.inBlock ?_
                                      refine Go.region rfl ?_
                                      refine GoOps.q (v := .int .i64 s249.2) rfl rfl (by decide) (q_move e312_15) ?_
                                      refine GoOps.q (v := .int .i64 (IntKind.wrap .i64 (s249.2 + 1))) rfl rfl (by decide) (q_add rfl rfl) ?_
                                      refine GoOps.q (v := .int .i64 (IntKind.wrap .i64 (s249.2 + 1))) rfl rfl (by decide) (q_assign rfl) ?_
                                      refine GoOps.nil ?_
                                      exact hagain250 _ _ _ h ⟨e312_0, e312_1, e312_5, e312_6, e312_7, e312_9, e312_14, rfl⟩
                                  · intro j310 hj310 h
                                    rcases bor s304 with hc308 | hc308
                                    · have h := h.1 hc308
                                      refine no_dst (want_no rfl rfl rfl hc308) rfl (by decide) ?_
                                      refine no_dst (want_no rfl rfl rfl hc308) rfl (by decide) ?_
                                      refine no_dst (want_no rfl rfl rfl hc308) rfl (by decide) ?_
                                      refine GoOps.q (v := .bool true) rfl rfl (by decide) (q_pickT (btT rfl hc308) rfl) ?_
                                      exact hj310 true _ _ h (by exact ⟨e307_0, e307_1, e307_5, e307_6, e307_7, e307_9, e307_14, e307_15, rfl⟩)
                                    · have h := h.2 hc308
                                      refine GoOps.q (v := .int .i64 y296) (want_yes rfl rfl rfl hc308) rfl (by decide) (q_move e307_19) ?_
                                      refine GoOps.q (v := .int .i64 s288.2) (want_yes rfl rfl rfl hc308) rfl (by decide) (q_move e307_16) ?_
                                      refine GoOps.q (v := .bool (y296 != s288.2)) (want_yes rfl rfl rfl hc308) rfl (by decide) (q_neq rfl rfl) ?_
                                      refine GoOps.q (v := .bool (y296 != s288.2)) rfl rfl (by decide) (q_pickF (btF rfl hc308) rfl) ?_
                                      exact hj310 (y296 != s288.2) _ _ h (by exact ⟨e307_0, e307_1, e307_5, e307_6, e307_7, e307_9, e307_14, e307_15, rfl⟩)
                                · intro j305 hj305 h
                                  rcases bor s299 with hc303 | hc303
                                  · have h := h.1 hc303
                                    refine no_dst (want_no rfl rfl rfl hc303) rfl (by decide) ?_
                                    refine no_dst (want_no rfl rfl rfl hc303) rfl (by decide) ?_
                                    refine no_dst (want_no rfl rfl rfl hc303) rfl (by decide) ?_
                                    refine no_dst (want_no rfl rfl rfl hc303) rfl (by decide) ?_
                                    refine no_dst (want_no rfl rfl rfl hc303) rfl (by decide) ?_
                                    refine no_dst (want_no rfl rfl rfl hc303) rfl (by decide) ?_
                                    refine GoOps.q (v := .bool true) rfl rfl (by decide) (q_pickT (btT rfl hc303) rfl) ?_
                                    exact hj305 true _ _ h (by exact ⟨e302_0, e302_1, e302_5, e302_6, e302_7, e302_9, e302_14, e302_15, e302_16, e302_19, rfl⟩)
                                  · have h := h.2 hc303
                                    refine GoOps.q (v := .int .i64 y293) (want_yes rfl rfl rfl hc303) rfl (by decide) (q_move e302_17) ?_
                                    refine GoOps.q (v := Sl.v r210) (want_yes rfl rfl rfl hc303) rfl (by decide) (q_move e302_6) ?_
                                    refine GoOps.q (v := .int .i64 s249.2) (want_yes rfl rfl rfl hc303) rfl (by decide) (q_move e302_15) ?_
                                    obtain ⟨a314, ha315, h⟩ := h
                                    refine GoOps.q (v := .pointer (some a314)) (want_yes rfl rfl rfl hc303) rfl (by decide) (q_idx slice26 ha315 rfl rfl) ?_
                                    obtain ⟨x316, hx317, h⟩ := h
                                    refine GoOps.q (v := .int .i64 x316) (want_yes rfl rfl rfl hc303) rfl (by decide) (q_load scalar3 rfl hx317) ?_
                                    refine GoOps.q (v := .bool (y293 != x316)) (want_yes rfl rfl rfl hc303) rfl (by decide) (q_neq rfl rfl) ?_
                                    refine GoOps.q (v := .bool (y293 != x316)) rfl rfl (by decide) (q_pickF (btF rfl hc303) rfl) ?_
                                    exact hj305 (y293 != x316) _ _ h (by exact ⟨e302_0, e302_1, e302_5, e302_6, e302_7, e302_9, e302_14, e302_15, e302_16, e302_19, rfl⟩)
                              · intro j300 hj300 h
                                rcases bor (!y294) with hc298 | hc298
                                · have h := h.1 hc298
                                  refine no_dst (want_no rfl rfl rfl hc298) rfl (by decide) ?_
                                  refine no_dst (want_no rfl rfl rfl hc298) rfl (by decide) ?_
                                  refine GoOps.q (v := .bool true) rfl rfl (by decide) (q_pickT (btT rfl hc298) rfl) ?_
                                  exact hj300 true _ _ h (by exact ⟨e291_0, e291_1, e291_5, e291_6, e291_7, e291_9, e291_14, e291_15, e291_16, rfl, rfl, rfl⟩)
                                · have h := h.2 hc298
                                  refine GoOps.q (v := .bool y297) (want_yes rfl rfl rfl hc298) rfl (by decide) (q_move rfl) ?_
                                  refine GoOps.q (v := .bool (!y297)) (want_yes rfl rfl rfl hc298) rfl (by decide) (q_not rfl) ?_
                                  refine GoOps.q (v := .bool (!y297)) rfl rfl (by decide) (q_pickF (btF rfl hc298) rfl) ?_
                                  exact hj300 (!y297) _ _ h (by exact ⟨e291_0, e291_1, e291_5, e291_6, e291_7, e291_9, e291_14, e291_15, e291_16, rfl, rfl, rfl⟩)
                            · intro j289 hj289 h
                              rcases bor (decide (0 ≤ x286)) with hc318 | hc318
                              · have h := h.1 hc318
                                refine Go.condT (btT rfl hc318) ?_
                                refine Go.seq ?_
                                refine Go.region rfl ?_
                                refine GoOps.q (v := Sl.v r208) rfl rfl (by decide) (q_move e279_7) ?_
                                refine GoOps.q (v := .int .i64 s249.2) rfl rfl (by decide) (q_move e279_15) ?_
                                obtain ⟨a319, ha320, h⟩ := h
                                refine GoOps.q (v := .pointer (some a319)) rfl rfl (by decide) (q_idx slice26 ha320 rfl rfl) ?_
                                obtain ⟨x321, hx322, h⟩ := h
                                refine GoOps.q (v := .int .i64 x321) rfl rfl (by decide) (q_load scalar3 rfl hx322) ?_
                                refine GoOps.q (v := .int .i64 x321) rfl rfl (by decide) (q_assign rfl) ?_
                                refine GoOps.nil ?_
                                refine Go.region rfl ?_
                                refine GoOps.q (v := .int .i64 s249.1) rfl rfl (by decide) (q_move e279_14) ?_
                                refine GoOps.q (v := .int .i64 (IntKind.wrap .i64 (s249.1 + 1))) rfl rfl (by decide) (q_add rfl rfl) ?_
                                refine GoOps.q (v := .int .i64 (IntKind.wrap .i64 (s249.1 + 1))) rfl rfl (by decide) (q_assign rfl) ?_
                                refine GoOps.nil ?_
                                exact hj289 _ _ _ h ⟨e279_0, e279_1, e279_5, e279_6, e279_7, e279_9, rfl, e279_15, rfl⟩
                              · have h := h.2 hc318
                                refine Go.condF (btF rfl hc318) ?_
                                refine Go.skip ?_
                                exact hj289 _ _ _ h ⟨e279_0, e279_1, e279_5, e279_6, e279_7, e279_9, e279_14, e279_15, rfl⟩
                          · intro j277 hj277 h
                            rcases bor s272 with hc323 | hc323
                            · have h := h.1 hc323
                              refine Go.condT (btT e275_181 hc323) ?_
                              refine Go.region rfl ?_
                              refine GoOps.q (v := Sl.v r208) rfl rfl (by decide) (q_move e275_7) ?_
                              refine GoOps.q (v := .int .i64 s249.2) rfl rfl (by decide) (q_move e275_15) ?_
                              obtain ⟨a324, ha325, h⟩ := h
                              refine GoOps.q (v := .pointer (some a324)) rfl rfl (by decide) (q_idx slice26 ha325 rfl rfl) ?_
                              obtain ⟨q327b, q327o, q327c, q327e, hq327a, hq327b, hq327l, hq327v, h⟩ := h
                              refine op_none rfl rfl (do_store (vs := [.int .i64 (-1)]) size3 (pta rfl hq327a) rfl rfl rfl hq327v hq327b hq327l ?_) 
                              refine GoOps.nil ?_
                              exact hj277 _ _ _ h ⟨e275_0, e275_1, e275_5, e275_6, e275_7, e275_9, e275_14, e275_15⟩
                            · have h := h.2 hc323
                              refine Go.condF (btF e275_181 hc323) ?_
                              refine Go.skip ?_
                              exact hj277 _ _ _ h ⟨e275_0, e275_1, e275_5, e275_6, e275_7, e275_9, e275_14, e275_15⟩
                        · intro j273 hj273 h
                          rcases bor (x269 == 3) with hc271 | hc271
                          · have h := h.1 hc271
                            refine no_dst (want_no rfl rfl rfl hc271) rfl (by decide) ?_
                            refine no_dst (want_no rfl rfl rfl hc271) rfl (by decide) ?_
                            refine no_dst (want_no rfl rfl rfl hc271) rfl (by decide) ?_
                            refine no_dst (want_no rfl rfl rfl hc271) rfl (by decide) ?_
                            refine no_dst (want_no rfl rfl rfl hc271) rfl (by decide) ?_
                            refine no_dst (want_no rfl rfl rfl hc271) rfl (by decide) ?_
                            refine GoOps.q (v := .bool true) rfl rfl (by decide) (q_pickT (btT rfl hc271) rfl) ?_
                            exact hj273 true _ _ h (by exact ⟨e266_0, e266_1, e266_5, e266_6, e266_7, e266_9, e266_14, e266_15, rfl⟩)
                          · have h := h.2 hc271
                            refine GoOps.q (v := Sl.v p1) (want_yes rfl rfl rfl hc271) rfl (by decide) (q_move e266_1) ?_
                            refine GoOps.q (v := .int .i64 s224) (want_yes rfl rfl rfl hc271) rfl (by decide) (q_move e266_9) ?_
                            obtain ⟨a328, ha329, h⟩ := h
                            refine GoOps.q (v := .pointer (some a328)) (want_yes rfl rfl rfl hc271) rfl (by decide) (q_idx slice22 ha329 rfl rfl) ?_
                            refine GoOps.q (v := .pointer (some (a328.add 0))) (want_yes rfl rfl rfl hc271) rfl (by decide) (q_fieldAddr foff29_0 rfl) ?_
                            obtain ⟨x330, hx331, h⟩ := h
                            refine GoOps.q (v := .int .i64 x330) (want_yes rfl rfl rfl hc271) rfl (by decide) (q_load scalar3 rfl hx331) ?_
                            refine GoOps.q (v := .bool (x330 == 4)) (want_yes rfl rfl rfl hc271) rfl (by decide) (q_eql rfl rfl) ?_
                            refine GoOps.q (v := .bool (x330 == 4)) rfl rfl (by decide) (q_pickF (btF rfl hc271) rfl) ?_
                            exact hj273 (x330 == 4) _ _ h (by exact ⟨e266_0, e266_1, e266_5, e266_6, e266_7, e266_9, e266_14, e266_15, rfl⟩)
                      · intro j264 hj264 h
                        rcases bor s259 with hc332 | hc332
                        · have h := h.1 hc332
                          refine Go.condT (btT e262_160 hc332) ?_
                          refine Go.region rfl ?_
                          refine GoOps.q (v := Sl.v r210) rfl rfl (by decide) (q_move e262_6) ?_
                          refine GoOps.q (v := .int .i64 s249.2) rfl rfl (by decide) (q_move e262_15) ?_
                          refine GoOps.q (v := Sl.v r208) rfl rfl (by decide) (q_move e262_7) ?_
                          refine GoOps.q (v := .int .i64 s249.2) rfl rfl (by decide) (q_move e262_15) ?_
                          obtain ⟨a333, ha334, h⟩ := h
                          refine GoOps.q (v := .pointer (some a333)) rfl rfl (by decide) (q_idx slice26 ha334 rfl rfl) ?_
                          obtain ⟨x335, hx336, h⟩ := h
                          refine GoOps.q (v := .int .i64 x335) rfl rfl (by decide) (q_load scalar3 rfl hx336) ?_
                          obtain ⟨a337, ha338, h⟩ := h
                          refine GoOps.q (v := .pointer (some a337)) rfl rfl (by decide) (q_idx slice26 ha338 rfl rfl) ?_
                          obtain ⟨q340b, q340o, q340c, q340e, hq340a, hq340b, hq340l, hq340v, h⟩ := h
                          refine op_none rfl rfl (do_store (vs := [.int .i64 x335]) size3 (pta rfl hq340a) rfl rfl rfl hq340v hq340b hq340l ?_) 
                          refine GoOps.nil ?_
                          exact hj264 _ _ _ h ⟨e262_0, e262_1, e262_5, e262_6, e262_7, e262_9, e262_14, e262_15⟩
                        · have h := h.2 hc332
                          refine Go.condF (btF e262_160 hc332) ?_
                          refine Go.skip ?_
                          exact hj264 _ _ _ h ⟨e262_0, e262_1, e262_5, e262_6, e262_7, e262_9, e262_14, e262_15⟩
                    · intro j260 hj260 h
                      rcases bor (decide (0 ≤ x256)) with hc258 | hc258
                      · have h := h.1 hc258
                        refine GoOps.q (v := Sl.v p1) (want_yes rfl rfl rfl hc258) rfl (by decide) (q_move e251_1) ?_
                        refine GoOps.q (v := .int .i64 s224) (want_yes rfl rfl rfl hc258) rfl (by decide) (q_move e251_9) ?_
                        obtain ⟨a341, ha342, h⟩ := h
                        refine GoOps.q (v := .pointer (some a341)) (want_yes rfl rfl rfl hc258) rfl (by decide) (q_idx slice22 ha342 rfl rfl) ?_
                        refine GoOps.q (v := .pointer (some (a341.add 0))) (want_yes rfl rfl rfl hc258) rfl (by decide) (q_fieldAddr foff29_0 rfl) ?_
                        obtain ⟨x343, hx344, h⟩ := h
                        refine GoOps.q (v := .int .i64 x343) (want_yes rfl rfl rfl hc258) rfl (by decide) (q_load scalar3 rfl hx344) ?_
                        refine GoOps.q (v := .bool (x343 == 3)) (want_yes rfl rfl rfl hc258) rfl (by decide) (q_eql rfl rfl) ?_
                        refine GoOps.q (v := .bool (x343 == 3)) rfl rfl (by decide) (q_pickT (btT rfl hc258) rfl) ?_
                        exact hj260 (x343 == 3) _ _ h (by exact ⟨e251_0, e251_1, e251_5, e251_6, e251_7, e251_9, e251_14, e251_15, rfl⟩)
                      · have h := h.2 hc258
                        refine no_dst (want_no rfl rfl rfl hc258) rfl (by decide) ?_
                        refine no_dst (want_no rfl rfl rfl hc258) rfl (by decide) ?_
                        refine no_dst (want_no rfl rfl rfl hc258) rfl (by decide) ?_
                        refine no_dst (want_no rfl rfl rfl hc258) rfl (by decide) ?_
                        refine no_dst (want_no rfl rfl rfl hc258) rfl (by decide) ?_
                        refine no_dst (want_no rfl rfl rfl hc258) rfl (by decide) ?_
                        refine GoOps.q (v := .bool false) rfl rfl (by decide) (q_pickF (btF rfl hc258) rfl) ?_
                        exact hj260 false _ _ h (by exact ⟨e251_0, e251_1, e251_5, e251_6, e251_7, e251_9, e251_14, e251_15, rfl⟩)
                  · have h := h.2 hc253
                    refine Go.condF (btF rfl hc253) ?_
                    refine Go.exit rfl ?_
                    refine Go.seq ?_
                    refine Go.region rfl ?_
                    refine GoOps.q (v := .pointer y15) rfl rfl (by decide) (q_move e251_5) ?_
                    refine call_dst rfl (by decide) body17 (image_Image_Pending_s _ _ _ h) rfl ?_
                    rintro _ H345 ⟨y346, rfl, h⟩
                    refine GoOps.q (v := .int .i64 s249.1) rfl rfl (by decide) (q_move e251_14) ?_
                    refine GoOps.q (v := .bool (y346 != s249.1)) rfl rfl (by decide) (q_neq rfl rfl) ?_
                    refine GoOps.nil ?_
                    rcases bor (y346 != s249.1) with hc347 | hc347
                    · have h := h.1 hc347
                      refine Go.condT (btT rfl hc347) ?_
                      refine Go.seq ?_
                      refine Go.region rfl ?_
                      refine GoOps.q (v := .bool false) rfl rfl (by decide) (q_assign rfl) ?_
                      refine GoOps.nil ?_
                      exact Go.ret ⟨.inl rfl, _, _, DOk.nil, (resOk1 Try.results3 rfl), ⟨_, rfl, h⟩⟩
                    · have h := h.2 hc347
                      refine Go.condF (btF rfl hc347) ?_
                      refine Go.skip ?_
                      refine Go.inBlock ?_
                      refine Go.region rfl ?_
                      refine GoOps.q (v := .int .i64 s224) rfl rfl (by decide) (q_move e251_9) ?_
                      refine GoOps.q (v := .int .i64 (IntKind.wrap .i64 (s224 + 1))) rfl rfl (by decide) (q_add rfl rfl) ?_
                      refine GoOps.q (v := .int .i64 (IntKind.wrap .i64 (s224 + 1))) rfl rfl (by decide) (q_assign rfl) ?_
                      refine GoOps.nil ?_
                      exact hagain225 _ _ _ h ⟨e251_0, e251_1, e251_5, e251_6, e251_7, rfl⟩
                · intro j246 hj246 h
                  refine Go.block ?_
                  refine Go.seq ?_
                  refine Go.region rfl ?_
                  refine GoOps.q (v := .bool (x243 == 1)) rfl rfl (by decide) (q_eql rfl rfl) ?_
                  refine GoOps.q (v := .bool (x243 == 1)) rfl rfl (by decide) (q_assign rfl) ?_
                  refine GoOps.nil ?_
                  rcases bor (x243 == 1) with hc348 | hc348
                  · have h := h.1 hc348
                    refine Go.condT (btT rfl hc348) ?_
                    refine Go.seq ?_
                    refine Go.region rfl ?_
                    refine GoOps.q (v := .pointer y15) rfl rfl (by decide) (q_move e226_5) ?_
                    refine GoOps.q (v := .int .i64 y234) rfl rfl (by decide) (q_move rfl) ?_
                    refine GoOps.q (v := .int .i64 s224) rfl rfl (by decide) (q_move e226_9) ?_
                    refine GoOps.q (v := .int .i64 (IntKind.wrap .i64 (s224 + 1))) rfl rfl (by decide) (q_add rfl rfl) ?_
                    refine call_dst rfl (by decide) body9 (image_Image_Write_s _ _ _ _ _ h) rfl ?_
                    rintro _ H349 ⟨y350, y351, rfl, h⟩
                    refine GoOps.nil ?_
                    refine Go.region rfl ?_
                    refine GoOps.q (v := Sl.v r208) rfl rfl (by decide) (q_move e226_7) ?_
                    refine GoOps.q (v := .int .i64 y234) rfl rfl (by decide) (q_move rfl) ?_
                    refine GoOps.q (v := .int .i64 s224) rfl rfl (by decide) (q_move e226_9) ?_
                    refine GoOps.q (v := .int .i64 (IntKind.wrap .i64 (s224 + 1))) rfl rfl (by decide) (q_add rfl rfl) ?_
                    obtain ⟨a352, ha353, h⟩ := h
                    refine GoOps.q (v := .pointer (some a352)) rfl rfl (by decide) (q_idx slice26 ha353 rfl rfl) ?_
                    obtain ⟨q355b, q355o, q355c, q355e, hq355a, hq355b, hq355l, hq355v, h⟩ := h
                    refine op_none rfl rfl (do_store (vs := [.int .i64 (IntKind.wrap .i64 (s224 + 1))]) size3 (pta rfl hq355a) rfl rfl rfl hq355v hq355b hq355l ?_) 
                    refine GoOps.nil ?_
                    refine Go.inBlock ?_
                    exact hj246 _ _ _ h ⟨e226_0, e226_1, e226_5, e226_6, e226_7, e226_9⟩
                  · have h := h.2 hc348
                    refine Go.condF (btF rfl hc348) ?_
                    refine Go.seq ?_
                    refine Go.region rfl ?_
                    refine GoOps.q (v := .bool (x243 == 2)) rfl rfl (by decide) (q_eql rfl rfl) ?_
                    refine GoOps.q (v := .bool (x243 == 2)) rfl rfl (by decide) (q_assign rfl) ?_
                    refine GoOps.nil ?_
                    rcases bor (x243 == 2) with hc356 | hc356
                    · have h := h.1 hc356
                      refine Go.condT (btT rfl hc356) ?_
                      refine Go.seq ?_
                      refine Go.region rfl ?_
                      refine GoOps.q (v := .pointer y15) rfl rfl (by decide) (q_move e226_5) ?_
                      refine GoOps.q (v := .int .i64 y234) rfl rfl (by decide) (q_move rfl) ?_
                      refine GoOps.q (v := .int .i64 (IntKind.wrap .i64 (1 + y240))) rfl rfl (by decide) (q_move rfl) ?_
                      refine call_dst rfl (by decide) body10 (image_Image_Trim_s _ _ _ _ _ h) rfl ?_
                      rintro _ H357 ⟨y358, y359, rfl, h⟩
                      refine GoOps.nil ?_
                      refine Go.seq ?_
                      refine Go.region rfl ?_
                      refine GoOps.q (v := .int .i64 y234) rfl rfl (by decide) (q_move rfl) ?_
                      refine GoOps.q (v := .int .i64 y234) rfl rfl (by decide) (q_assign rfl) ?_
                      refine GoOps.nil ?_
                      refine Go.block ?_
                      refine loop_go (fun ρ (s360 : Int) => ρ 0 = .int .i64 p0 ∧ ρ 1 = Sl.v p1 ∧ ρ 5 = .pointer y15 ∧ ρ 6 = Sl.v r210 ∧ ρ 7 = Sl.v r208 ∧ ρ 9 = .int .i64 s224 ∧ ρ 10 = .int .i64 y234 ∧ ρ 11 = .int .i64 (IntKind.wrap .i64 (1 + y240)) ∧ ρ 12 = .int .i64 s360) h ⟨e226_0, e226_1, e226_5, e226_6, e226_7, e226_9, rfl, rfl, rfl⟩ ?_
                      clear h
                      intro ρ s360 H363 again361 hE h hagain361
                      obtain ⟨e362_0, e362_1, e362_5, e362_6, e362_7, e362_9, e362_10, e362_11, e362_12⟩ := hE
                      refine Go.seq ?_
                      refine Go.seq ?_
                      refine Go.region rfl ?_
                      refine GoOps.q (v := .int .i64 s360) rfl rfl (by decide) (q_move e362_12) ?_
                      refine GoOps.q (v := .int .i64 y234) rfl rfl (by decide) (q_move e362_10) ?_
                      refine GoOps.q (v := .int .i64 (IntKind.wrap .i64 (1 + y240))) rfl rfl (by decide) (q_move e362_11) ?_
                      refine GoOps.q (v := .int .i64 (IntKind.wrap .i64 (y234 + (IntKind.wrap .i64 (1 + y240))))) rfl rfl (by decide) (q_add rfl rfl) ?_
                      refine GoOps.q (v := .bool (decide (s360 < (IntKind.wrap .i64 (y234 + (IntKind.wrap .i64 (1 + y240))))))) rfl rfl (by decide) (q_lss rfl rfl) ?_
                      refine GoOps.nil ?_
                      rcases bor (decide (s360 < (IntKind.wrap .i64 (y234 + (IntKind.wrap .i64 (1 + y240)))))) with hc364 | hc364
                      · have h := h.1 hc364
                        refine Go.condT (btT rfl hc364) ?_
                        refine Go.skip ?_
                        refine Go.seq ?_
                        refine Go.block ?_
                        refine Go.region rfl ?_
                        refine GoOps.q (v := Sl.v r208) rfl rfl (by decide) (q_move e362_7) ?_
                        refine GoOps.q (v := .int .i64 s360) rfl rfl (by decide) (q_move e362_12) ?_
                        obtain ⟨a365, ha366, h⟩ := h
                        refine GoOps.q (v := .pointer (some a365)) rfl rfl (by decide) (q_idx slice26 ha366 rfl rfl) ?_
                        obtain ⟨q368b, q368o, q368c, q368e, hq368a, hq368b, hq368l, hq368v, h⟩ := h
                        refine op_none rfl rfl (do_store (vs := [.int .i64 0]) size3 (pta rfl hq368a) rfl rfl rfl hq368v hq368b hq368l ?_) 
                        refine GoOps.nil ?_
                        refine Go.inBlock ?_
                        refine Go.region rfl ?_
                        refine GoOps.q (v := .int .i64 s360) rfl rfl (by decide) (q_move e362_12) ?_
                        refine GoOps.q (v := .int .i64 (IntKind.wrap .i64 (s360 + 1))) rfl rfl (by decide) (q_add rfl rfl) ?_
                        refine GoOps.q (v := .int .i64 (IntKind.wrap .i64 (s360 + 1))) rfl rfl (by decide) (q_assign rfl) ?_
                        refine GoOps.nil ?_
                        exact hagain361 _ _ _ h ⟨e362_0, e362_1, e362_5, e362_6, e362_7, e362_9, e362_10, e362_11, rfl⟩
                      · have h := h.2 hc364
                        refine Go.condF (btF rfl hc364) ?_
                        refine Go.exit rfl ?_
                        refine Go.inBlock ?_
                        exact hj246 _ _ _ h ⟨e362_0, e362_1, e362_5, e362_6, e362_7, e362_9⟩
                    · have h := h.2 hc356
                      refine Go.condF (btF rfl hc356) ?_
                      refine Go.seq ?_
                      refine Go.region rfl ?_
                      refine GoOps.q (v := .bool (x243 == 3)) rfl rfl (by decide) (q_eql rfl rfl) ?_
                      refine GoOps.q (v := .bool (x243 == 3)) rfl rfl (by decide) (q_assign rfl) ?_
                      refine GoOps.nil ?_
                      rcases bor (x243 == 3) with hc369 | hc369
                      · have h := h.1 hc369
                        refine Go.condT (btT rfl hc369) ?_
                        refine Go.region rfl ?_
                        refine GoOps.q (v := .pointer y15) rfl rfl (by decide) (q_move e226_5) ?_
                        refine call_dst rfl (by decide) body11 (image_Image_Commit_s _ _ _ h) rfl ?_
                        rintro _ H370 ⟨y371, rfl, h⟩
                        refine GoOps.nil ?_
                        refine Go.inBlock ?_
                        exact hj246 _ _ _ h ⟨e226_0, e226_1, e226_5, e226_6, e226_7, e226_9⟩
                      · have h := h.2 hc369
                        refine Go.condF (btF rfl hc369) ?_
                        refine Go.seq ?_
                        refine Go.region rfl ?_
                        refine GoOps.q (v := .bool (x243 == 4)) rfl rfl (by decide) (q_eql rfl rfl) ?_
                        refine GoOps.q (v := .bool (x243 == 4)) rfl rfl (by decide) (q_assign rfl) ?_
                        refine GoOps.nil ?_
                        rcases bor (x243 == 4) with hc372 | hc372
                        · have h := h.1 hc372
                          refine Go.condT (btT rfl hc372) ?_
                          refine Go.region rfl ?_
                          refine GoOps.q (v := .pointer y15) rfl rfl (by decide) (q_move e226_5) ?_
                          refine call_dst rfl (by decide) body12 (image_Image_Forget_s _ _ _ h) rfl ?_
                          rintro _ H373 ⟨y374, rfl, h⟩
                          refine GoOps.nil ?_
                          refine Go.inBlock ?_
                          exact hj246 _ _ _ h ⟨e226_0, e226_1, e226_5, e226_6, e226_7, e226_9⟩
                        · have h := h.2 hc372
                          refine Go.condF (btF rfl hc372) ?_
                          refine Go.seq ?_
                          refine Go.region rfl ?_
                          refine GoOps.q (v := .bool (x243 == 5)) rfl rfl (by decide) (q_eql rfl rfl) ?_
                          refine GoOps.q (v := .bool (x243 == 5)) rfl rfl (by decide) (q_assign rfl) ?_
                          refine GoOps.nil ?_
                          rcases bor (x243 == 5) with hc375 | hc375
                          · have h := h.1 hc375
                            refine Go.condT (btT rfl hc375) ?_
                            refine Go.seq ?_
                            refine Go.region rfl ?_
                            refine GoOps.q (v := .pointer y15) rfl rfl (by decide) (q_move e226_5) ?_
                            refine GoOps.q (v := .int .i64 y234) rfl rfl (by decide) (q_move rfl) ?_
                            refine GoOps.q (v := .int .i64 s224) rfl rfl (by decide) (q_move e226_9) ?_
                            refine GoOps.q (v := .int .i64 (IntKind.wrap .i64 (s224 + 1))) rfl rfl (by decide) (q_add rfl rfl) ?_
                            refine call_dst rfl (by decide) body13 (image_Image_Put_s _ _ _ _ _ h) rfl ?_
                            rintro _ H376 ⟨y377, y378, rfl, h⟩
                            refine GoOps.nil ?_
                            refine Go.region rfl ?_
                            refine GoOps.q (v := Sl.v r210) rfl rfl (by decide) (q_move e226_6) ?_
                            refine GoOps.q (v := .int .i64 y234) rfl rfl (by decide) (q_move rfl) ?_
                            refine GoOps.q (v := .int .i64 s224) rfl rfl (by decide) (q_move e226_9) ?_
                            refine GoOps.q (v := .int .i64 (IntKind.wrap .i64 (s224 + 1))) rfl rfl (by decide) (q_add rfl rfl) ?_
                            obtain ⟨a379, ha380, h⟩ := h
                            refine GoOps.q (v := .pointer (some a379)) rfl rfl (by decide) (q_idx slice26 ha380 rfl rfl) ?_
                            obtain ⟨q382b, q382o, q382c, q382e, hq382a, hq382b, hq382l, hq382v, h⟩ := h
                            refine op_none rfl rfl (do_store (vs := [.int .i64 (IntKind.wrap .i64 (s224 + 1))]) size3 (pta rfl hq382a) rfl rfl rfl hq382v hq382b hq382l ?_) 
                            refine GoOps.nil ?_
                            refine Go.inBlock ?_
                            exact hj246 _ _ _ h ⟨e226_0, e226_1, e226_5, e226_6, e226_7, e226_9⟩
                          · have h := h.2 hc375
                            refine Go.condF (btF rfl hc375) ?_
                            refine Go.seq ?_
                            refine Go.region rfl ?_
                            refine GoOps.q (v := .bool (x243 == 6)) rfl rfl (by decide) (q_eql rfl rfl) ?_
                            refine GoOps.q (v := .bool (x243 == 6)) rfl rfl (by decide) (q_assign rfl) ?_
                            refine GoOps.nil ?_
                            rcases bor (x243 == 6) with hc383 | hc383
                            · have h := h.1 hc383
                              refine Go.condT (btT rfl hc383) ?_
                              refine Go.seq ?_
                              refine Go.region rfl ?_
                              refine GoOps.q (v := .pointer y15) rfl rfl (by decide) (q_move e226_5) ?_
                              refine GoOps.q (v := .int .i64 y234) rfl rfl (by decide) (q_move rfl) ?_
                              refine GoOps.q (v := .int .i64 (IntKind.wrap .i64 (1 + y240))) rfl rfl (by decide) (q_move rfl) ?_
                              refine call_dst rfl (by decide) body14 (image_Image_Drop_s _ _ _ _ _ h) rfl ?_
                              rintro _ H384 ⟨y385, y386, rfl, h⟩
                              refine GoOps.nil ?_
                              refine Go.seq ?_
                              refine Go.region rfl ?_
                              refine GoOps.q (v := .int .i64 y234) rfl rfl (by decide) (q_move rfl) ?_
                              refine GoOps.q (v := .int .i64 y234) rfl rfl (by decide) (q_assign rfl) ?_
                              refine GoOps.nil ?_
                              refine Go.block ?_
                              refine loop_go (fun ρ (s387 : Int) => ρ 0 = .int .i64 p0 ∧ ρ 1 = Sl.v p1 ∧ ρ 5 = .pointer y15 ∧ ρ 6 = Sl.v r210 ∧ ρ 7 = Sl.v r208 ∧ ρ 9 = .int .i64 s224 ∧ ρ 10 = .int .i64 y234 ∧ ρ 11 = .int .i64 (IntKind.wrap .i64 (1 + y240)) ∧ ρ 13 = .int .i64 s387) h ⟨e226_0, e226_1, e226_5, e226_6, e226_7, e226_9, rfl, rfl, rfl⟩ ?_
                              clear h
                              intro ρ s387 H390 again388 hE h hagain388
                              obtain ⟨e389_0, e389_1, e389_5, e389_6, e389_7, e389_9, e389_10, e389_11, e389_13⟩ := hE
                              refine Go.seq ?_
                              refine Go.seq ?_
                              refine Go.region rfl ?_
                              refine GoOps.q (v := .int .i64 s387) rfl rfl (by decide) (q_move e389_13) ?_
                              refine GoOps.q (v := .int .i64 y234) rfl rfl (by decide) (q_move e389_10) ?_
                              refine GoOps.q (v := .int .i64 (IntKind.wrap .i64 (1 + y240))) rfl rfl (by decide) (q_move e389_11) ?_
                              refine GoOps.q (v := .int .i64 (IntKind.wrap .i64 (y234 + (IntKind.wrap .i64 (1 + y240))))) rfl rfl (by decide) (q_add rfl rfl) ?_
                              refine GoOps.q (v := .bool (decide (s387 < (IntKind.wrap .i64 (y234 + (IntKind.wrap .i64 (1 + y240))))))) rfl rfl (by decide) (q_lss rfl rfl) ?_
                              refine GoOps.nil ?_
                              rcases bor (decide (s387 < (IntKind.wrap .i64 (y234 + (IntKind.wrap .i64 (1 + y240)))))) with hc391 | hc391
                              · have h := h.1 hc391
                                refine Go.condT (btT rfl hc391) ?_
                                refine Go.skip ?_
                                refine Go.seq ?_
                                refine Go.block ?_
                                refine Go.region rfl ?_
                                refine GoOps.q (v := Sl.v r210) rfl rfl (by decide) (q_move e389_6) ?_
                                refine GoOps.q (v := .int .i64 s387) rfl rfl (by decide) (q_move e389_13) ?_
                                obtain ⟨a392, ha393, h⟩ := h
                                refine GoOps.q (v := .pointer (some a392)) rfl rfl (by decide) (q_idx slice26 ha393 rfl rfl) ?_
                                obtain ⟨q395b, q395o, q395c, q395e, hq395a, hq395b, hq395l, hq395v, h⟩ := h
                                refine op_none rfl rfl (do_store (vs := [.int .i64 0]) size3 (pta rfl hq395a) rfl rfl rfl hq395v hq395b hq395l ?_) 
                                refine GoOps.nil ?_
                                refine Go.inBlock ?_
                                refine Go.region rfl ?_
                                refine GoOps.q (v := .int .i64 s387) rfl rfl (by decide) (q_move e389_13) ?_
                                refine GoOps.q (v := .int .i64 (IntKind.wrap .i64 (s387 + 1))) rfl rfl (by decide) (q_add rfl rfl) ?_
                                refine GoOps.q (v := .int .i64 (IntKind.wrap .i64 (s387 + 1))) rfl rfl (by decide) (q_assign rfl) ?_
                                refine GoOps.nil ?_
                                exact hagain388 _ _ _ h ⟨e389_0, e389_1, e389_5, e389_6, e389_7, e389_9, e389_10, e389_11, rfl⟩
                              · have h := h.2 hc391
                                refine Go.condF (btF rfl hc391) ?_
                                refine Go.exit rfl ?_
                                refine Go.inBlock ?_
                                exact hj246 _ _ _ h ⟨e389_0, e389_1, e389_5, e389_6, e389_7, e389_9⟩
                            · have h := h.2 hc383
                              refine Go.condF (btF rfl hc383) ?_
                              refine Go.skip ?_
                              refine Go.inBlock ?_
                              exact hj246 _ _ _ h ⟨e226_0, e226_1, e226_5, e226_6, e226_7, e226_9⟩
              · have h := h.2 hc228
                refine Go.condF (btF rfl hc228) ?_
                refine Go.exit rfl ?_
                refine Go.seq ?_
                refine Go.region rfl ?_
                refine call_dst rfl (by decide) body6 (keelsonlaw16_awake_s _ _ h) rfl ?_
                rintro _ H396 ⟨y397, rfl, h⟩
                refine GoOps.q (v := .bool y397) rfl rfl (by decide) (q_assign rfl) ?_
                refine GoOps.nil ?_
                exact Go.ret ⟨.inl rfl, _, _, DOk.nil, (resOk1 Try.results3 rfl), ⟨_, rfl, h⟩⟩
    · intro j8 hj8 h
      rcases bor s2 with hc6 | hc6
      · have h := h.1 hc6
        refine no_dst (want_no rfl rfl rfl hc6) rfl (by decide) ?_
        refine no_dst (want_no rfl rfl rfl hc6) rfl (by decide) ?_
        refine no_dst (want_no rfl rfl rfl hc6) rfl (by decide) ?_
        refine GoOps.q (v := .bool true) rfl rfl (by decide) (q_pickT (btT rfl hc6) rfl) ?_
        exact hj8 true _ _ h (by exact ⟨e5_0, e5_1, rfl⟩)
      · have h := h.2 hc6
        refine GoOps.q (v := Sl.v p1) (want_yes rfl rfl rfl hc6) rfl (by decide) (q_move e5_1) ?_
        refine GoOps.q (v := .int .i64 (p1.len : Int)) (want_yes rfl rfl rfl hc6) rfl (by decide) (q_len Try.underlying22 rfl (ls1 rfl)) ?_
        refine GoOps.q (v := .bool (decide (60 < (p1.len : Int)))) (want_yes rfl rfl rfl hc6) rfl (by decide) (q_gtr rfl rfl) ?_
        refine GoOps.q (v := .bool (decide (60 < (p1.len : Int)))) rfl rfl (by decide) (q_pickF (btF rfl hc6) rfl) ?_
        exact hj8 (decide (60 < (p1.len : Int))) _ _ h (by exact ⟨e5_0, e5_1, rfl⟩)
  · intro j3 hj3 h
    rcases bor (decide (p0 < 1)) with hc1 | hc1
    · have h := h.1 hc1
      refine no_dst (want_no rfl rfl rfl hc1) rfl (by decide) ?_
      refine no_dst (want_no rfl rfl rfl hc1) rfl (by decide) ?_
      refine GoOps.q (v := .bool true) rfl rfl (by decide) (q_pickT (btT rfl hc1) rfl) ?_
      exact hj3 true _ _ h (by exact ⟨rfl, rfl, rfl⟩)
    · have h := h.2 hc1
      refine GoOps.q (v := .int .i64 p0) (want_yes rfl rfl rfl hc1) rfl (by decide) (q_move rfl) ?_
      refine GoOps.q (v := .bool (decide (64 < p0))) (want_yes rfl rfl rfl hc1) rfl (by decide) (q_gtr rfl rfl) ?_
      refine GoOps.q (v := .bool (decide (64 < p0))) rfl rfl (by decide) (q_pickF (btF rfl hc1) rfl) ?_
      exact hj3 (decide (64 < p0)) _ _ h (by exact ⟨rfl, rfl, rfl⟩)

/-- keelson.keelsonlaw16.ImageGoes -/
def keelsonlaw16_ImageGoes (p0 : Int) (p1 : Sl) (H : PH) (Q : Bool → PH → Prop) : Prop :=
  mJoin (fun (s2 : Bool) (H4 : PH) =>
  mJoin (fun (s7 : Bool) (H9 : PH) =>
  mIf s7
  (keelsonlaw16_awake H9 fun y13 H12 =>
  Q y13 H12)
  (image_New p0 H9 fun y15 H14 =>
  mIf (Option.isNone y15)
  (Q false H14)
  (mMk H14 4 1 [.bool false] (IntKind.wrap .i64 ((p1.len : Int) + 2)) (IntKind.wrap .i64 ((p1.len : Int) + 2)) fun r17 H18 =>
  mLoop (fun (s21 : Int) (H24 : PH) (again22 : Int → PH → Prop) =>
  mIf (decide (s21 < (p1.len : Int)))
  (mIdx p1 3 s21 fun a26 =>
  mLd (.int .i64) H24 (a26.add 1) fun x28 =>
  keelsonalike_Round x28 p0 H24 fun y31 H30 =>
  mIdx p1 3 s21 fun a32 =>
  mLd (.int .i64) H30 (a32.add 2) fun x34 =>
  keelsonalike_Round x34 (IntKind.wrap .i64 (p0 - y31)) H30 fun y37 H36 =>
  mIdx p1 3 s21 fun a38 =>
  mLd (.int .i64) H36 (a38.add 0) fun x40 =>
  mJoin (fun (s42 : Sl × Int) (H44 : PH) =>
  mIdx p1 3 s21 fun a46 =>
  mLd (.int .i64) H44 (a46.add 0) fun x48 =>
  mJoin (fun (s51 : Bool) (H53 : PH) =>
  mJoin (fun (s55 : Unit) (H57 : PH) =>
  mJoin (fun (s59 : Sl) (H61 : PH) =>
  mLoop (fun (s63 : Int) (H66 : PH) (again64 : Int → PH → Prop) =>
  mIf (decide (s63 < (s59.len : Int)))
  (mIdx s59 1 s63 fun a68 =>
  mLd (.int .i64) H66 a68 fun x70 =>
  mJoin (fun (s73 : Bool) (H75 : PH) =>
  mJoin (fun (s78 : Bool) (H80 : PH) =>
  mIf s78
  (Q false H80)
  (mIdx s59 1 s63 fun a83 =>
  mLd (.int .i64) H80 a83 fun x85 =>
  mIdx r17 1 x85 fun a87 =>
  mSt H80 a87 ([.bool false]) fun H89 =>
  again64 (IntKind.wrap .i64 (s63 + 1)) H89))
  fun j79 =>
  mIf s73
  (j79 true H75)
  (mIdx s59 1 s63 fun a91 =>
  mLd (.int .i64) H75 a91 fun x93 =>
  mIdx r17 1 x93 fun a95 =>
  mLd .bool H75 a95 fun x97 =>
  j79 (!x97) H75))
  fun j74 =>
  mIf (decide (x70 < 1))
  (j74 true H66)
  (mIdx s59 1 s63 fun a99 =>
  mLd (.int .i64) H66 a99 fun x101 =>
  j74 (decide ((p1.len : Int) < x101)) H66))
  (again22 (IntKind.wrap .i64 (s21 + 1)) H66))
  0 H61)
  fun j60 =>
  mIf (s42.2 != 0)
  (mNewS H57 (row [.int .i64 s42.2] 3) 1 fun r104 H105 =>
  mApp H105 3 1 8 [.int .i64 0] s42.1 r104 fun r107 H108 =>
  j60 r107 H108)
  (j60 s42.1 H57))
  fun j56 =>
  mIf s51
  (mIdx r17 1 (IntKind.wrap .i64 (s21 + 1)) fun a110 =>
  mSt H53 a110 ([.bool true]) fun H112 =>
  j56 () H112)
  (j56 () H53))
  fun j52 =>
  mIf (x48 == 1)
  (j52 true H44)
  (mIdx p1 3 s21 fun a114 =>
  mLd (.int .i64) H44 (a114.add 0) fun x116 =>
  j52 (x116 == 5) H44))
  fun j43 =>
  mIf (x40 == 1)
  (image_Image_Write y15 y31 (IntKind.wrap .i64 (s21 + 1)) H36 fun y120 y121 H119 =>
  j43 (Sl.nil, y120) H119)
  (mIf (x40 == 2)
  (image_Image_Trim y15 y31 (IntKind.wrap .i64 (1 + y37)) H36 fun y124 y125 H123 =>
  j43 (y124, 0) H123)
  (mIf (x40 == 3)
  (image_Image_Commit y15 H36 fun y128 H127 =>
  j43 (y128, 0) H127)
  (mIf (x40 == 4)
  (image_Image_Forget y15 H36 fun y131 H130 =>
  j43 (y131, 0) H130)
  (mIf (x40 == 5)
  (image_Image_Put y15 y31 (IntKind.wrap .i64 (s21 + 1)) H36 fun y134 y135 H133 =>
  j43 (Sl.nil, y134) H133)
  (mIf (x40 == 6)
  (image_Image_Drop y15 y31 (IntKind.wrap .i64 (1 + y37)) H36 fun y138 y139 H137 =>
  j43 (y138, 0) H137)
  (j43 (Sl.nil, 0) H36)))))))
  (keelsonlaw16_refs y15 300 H24 fun y141 H140 =>
  mLoop (fun (s142 : Int) (H145 : PH) (again143 : Int → PH → Prop) =>
  mIf (decide (s142 < (y141.len : Int)))
  (mIdx y141 2 s142 fun a147 =>
  mLd (.int .i64) H145 (a147.add 1) fun x149 =>
  mJoin (fun (s152 : Bool) (H154 : PH) =>
  mJoin (fun (s157 : Bool) (H159 : PH) =>
  mIf s157
  (Q false H159)
  (mIdx y141 2 s142 fun a162 =>
  mLd (.int .i64) H159 (a162.add 1) fun x164 =>
  mIdx r17 1 x164 fun a166 =>
  mSt H159 a166 ([.bool false]) fun H168 =>
  again143 (IntKind.wrap .i64 (s142 + 1)) H168))
  fun j158 =>
  mIf s152
  (j158 true H154)
  (mIdx y141 2 s142 fun a170 =>
  mLd (.int .i64) H154 (a170.add 1) fun x172 =>
  mIdx r17 1 x172 fun a174 =>
  mLd .bool H154 a174 fun x176 =>
  j158 (!x176) H154))
  fun j153 =>
  mIf (decide (x149 < 1))
  (j153 true H145)
  (mIdx y141 2 s142 fun a178 =>
  mLd (.int .i64) H145 (a178.add 1) fun x180 =>
  j153 (decide ((p1.len : Int) < x180)) H145))
  (mLoop (fun (s182 : Int) (H185 : PH) (again183 : Int → PH → Prop) =>
  mIf (decide (s182 < (r17.len : Int)))
  (mIdx r17 1 s182 fun a187 =>
  mLd .bool H185 a187 fun x189 =>
  mIf x189
  (Q false H185)
  (again183 (IntKind.wrap .i64 (s182 + 1)) H185))
  (keelsonlaw16_awake H185 fun y193 H192 =>
  Q y193 H192))
  0 H145))
  0 H140))
  0 H18)))
  fun j8 =>
  mIf s2
  (j8 true H4)
  (j8 (decide (80 < (p1.len : Int))) H4))
  fun j3 =>
  mIf (decide (p0 < 1))
  (j3 true H)
  (j3 (decide (64 < p0)) H)

set_option maxRecDepth 20000 in
set_option maxHeartbeats 1000000 in
theorem keelsonlaw16_ImageGoes_s (p0 : Int) (p1 : Sl) (H : PH) (Q : Bool → PH → Prop) (h : keelsonlaw16_ImageGoes p0 p1 H Q) :
    CallsH Try.prog 4 #[.int .i64 p0, Sl.v p1] H (fun v H' => ∃ (r0 : Bool), v = .bool r0 ∧ Q r0 H') := by
  unfold keelsonlaw16_ImageGoes at h
  refine callsH_of_go Try.func4 rfl Try.ntmps4 (Nat.le_of_ble_eq_true rfl) ?_
  refine Go.seq ?_
  refine Go.region rfl ?_
  refine GoOps.q (v := .bool false) rfl rfl (by decide) (q_assign rfl) ?_
  refine GoOps.nil ?_
  refine Go.seq ?_
  refine Go.seq ?_
  refine Go.region rfl ?_
  refine GoOps.q (v := .int .i64 p0) rfl rfl (by decide) (q_move rfl) ?_
  refine GoOps.q (v := .bool (decide (p0 < 1))) rfl rfl (by decide) (q_lss rfl rfl) ?_
  refine GoOps.q (v := .bool (decide (p0 < 1))) rfl rfl (by decide) (q_move rfl) ?_
  refine join_ops 3 (fun ρ (s2 : Bool) => ρ 0 = .int .i64 p0 ∧ ρ 1 = Sl.v p1 ∧ ρ 21 = .bool s2) h ?_ ?_ <;> clear h
  · intro s2 H4 ρ h hE
    obtain ⟨e5_0, e5_1, e5_21⟩ := hE
    refine GoOps.q (v := .bool s2) rfl rfl (by decide) (q_move e5_21) ?_
    refine join_ops 4 (fun ρ (s7 : Bool) => ρ 0 = .int .i64 p0 ∧ ρ 1 = Sl.v p1 ∧ ρ 26 = .bool s7) h ?_ ?_ <;> clear h
    · intro s7 H9 ρ h hE
      obtain ⟨e10_0, e10_1, e10_26⟩ := hE
      refine GoOps.nil ?_
      rcases bor s7 with hc11 | hc11
      · have h := h.1 hc11
        refine Go.condT (btT e10_26 hc11) ?_
        refine Go.seq ?_
        refine Go.region rfl ?_
        refine call_dst rfl (by decide) body6 (keelsonlaw16_awake_s _ _ h) rfl ?_
        rintro _ H12 ⟨y13, rfl, h⟩
        refine GoOps.q (v := .bool y13) rfl rfl (by decide) (q_assign rfl) ?_
        refine GoOps.nil ?_
        exact Go.ret ⟨.inl rfl, _, _, DOk.nil, (resOk1 Try.results4 rfl), ⟨_, rfl, h⟩⟩
      · have h := h.2 hc11
        refine Go.condF (btF e10_26 hc11) ?_
        refine Go.skip ?_
        refine Go.seq ?_
        refine Go.region rfl ?_
        refine GoOps.q (v := .int .i64 p0) rfl rfl (by decide) (q_move e10_0) ?_
        refine call_dst rfl (by decide) body7 (image_New_s _ _ _ h) rfl ?_
        rintro _ H14 ⟨y15, rfl, h⟩
        refine GoOps.q (v := .pointer y15) rfl rfl (by decide) (q_assign rfl) ?_
        refine GoOps.nil ?_
        refine Go.seq ?_
        refine Go.seq ?_
        refine Go.region rfl ?_
        refine GoOps.q (v := .pointer y15) rfl rfl (by decide) (q_move rfl) ?_
        refine GoOps.q (v := .bool (Option.isNone y15)) rfl rfl (by decide) (q_eqlPn Try.underlying24 rfl rfl) ?_
        refine GoOps.nil ?_
        rcases bor (Option.isNone y15) with hc16 | hc16
        · have h := h.1 hc16
          refine Go.condT (btT rfl hc16) ?_
          refine Go.seq ?_
          refine Go.region rfl ?_
          refine GoOps.q (v := .bool false) rfl rfl (by decide) (q_assign rfl) ?_
          refine GoOps.nil ?_
          exact Go.ret ⟨.inl rfl, _, _, DOk.nil, (resOk1 Try.results4 rfl), ⟨_, rfl, h⟩⟩
        · have h := h.2 hc16
          refine Go.condF (btF rfl hc16) ?_
          refine Go.skip ?_
          refine Go.seq ?_
          refine Go.region rfl ?_
          refine GoOps.q (v := Sl.v p1) rfl rfl (by decide) (q_move e10_1) ?_
          refine GoOps.q (v := .int .i64 (p1.len : Int)) rfl rfl (by decide) (q_len Try.underlying22 rfl (ls1 rfl)) ?_
          refine GoOps.q (v := .int .i64 (IntKind.wrap .i64 ((p1.len : Int) + 2))) rfl rfl (by decide) (q_add rfl rfl) ?_
          obtain ⟨hm20, h⟩ := h
          refine op_dst rfl rfl (by decide) (do_mk (zs := [.bool false]) slice38 bytes4 (by decide) zero4 rfl rfl (by decide) rfl rfl hm20 fun r17 H18 hb19 => ?_) 
          have h := h r17 H18 hb19
          refine GoOps.q (v := Sl.v r17) rfl rfl (by decide) (q_assign rfl) ?_
          refine GoOps.nil ?_
          refine Go.seq ?_
          refine Go.seq ?_
          refine Go.region rfl ?_
          refine GoOps.q (v := .int .i64 0) rfl rfl (by decide) (q_assign rfl) ?_
          refine GoOps.nil ?_
          refine Go.block ?_
          refine loop_go (fun ρ (s21 : Int) => ρ 0 = .int .i64 p0 ∧ ρ 1 = Sl.v p1 ∧ ρ 5 = .pointer y15 ∧ ρ 6 = Sl.v r17 ∧ ρ 7 = .int .i64 s21) h ⟨e10_0, e10_1, rfl, rfl, rfl⟩ ?_
          clear h
          intro ρ s21 H24 again22 hE h hagain22
          obtain ⟨e23_0, e23_1, e23_5, e23_6, e23_7⟩ := hE
          refine Go.seq ?_
          refine Go.seq ?_
          refine Go.region rfl ?_
          refine GoOps.q (v := .int .i64 s21) rfl rfl (by decide) (q_move e23_7) ?_
          refine GoOps.q (v := Sl.v p1) rfl rfl (by decide) (q_move e23_1) ?_
          refine GoOps.q (v := .int .i64 (p1.len : Int)) rfl rfl (by decide) (q_len Try.underlying22 rfl (ls1 rfl)) ?_
          refine GoOps.q (v := .bool (decide (s21 < (p1.len : Int)))) rfl rfl (by decide) (q_lss rfl rfl) ?_
          refine GoOps.nil ?_
          rcases bor (decide (s21 < (p1.len : Int))) with hc25 | hc25
          · have h := h.1 hc25
            refine Go.condT (btT rfl hc25) ?_
            refine Go.skip ?_
            refine Go.seq ?_
            refine Go.block ?_
            refine Go.seq ?_
            refine Go.region rfl ?_
            refine GoOps.q (v := Sl.v p1) rfl rfl (by decide) (q_move e23_1) ?_
            refine GoOps.q (v := .int .i64 s21) rfl rfl (by decide) (q_move e23_7) ?_
            obtain ⟨a26, ha27, h⟩ := h
            refine GoOps.q (v := .pointer (some a26)) rfl rfl (by decide) (q_idx slice22 ha27 rfl rfl) ?_
            refine GoOps.q (v := .pointer (some (a26.add 1))) rfl rfl (by decide) (q_fieldAddr foff29_1 rfl) ?_
            obtain ⟨x28, hx29, h⟩ := h
            refine GoOps.q (v := .int .i64 x28) rfl rfl (by decide) (q_load scalar3 rfl hx29) ?_
            refine GoOps.q (v := .int .i64 p0) rfl rfl (by decide) (q_move e23_0) ?_
            refine call_dst rfl (by decide) body8 (keelsonalike_Round_s _ _ _ _ h) rfl ?_
            rintro _ H30 ⟨y31, rfl, h⟩
            refine GoOps.q (v := .int .i64 y31) rfl rfl (by decide) (q_assign rfl) ?_
            refine GoOps.nil ?_
            refine Go.seq ?_
            refine Go.region rfl ?_
            refine GoOps.q (v := Sl.v p1) rfl rfl (by decide) (q_move e23_1) ?_
            refine GoOps.q (v := .int .i64 s21) rfl rfl (by decide) (q_move e23_7) ?_
            obtain ⟨a32, ha33, h⟩ := h
            refine GoOps.q (v := .pointer (some a32)) rfl rfl (by decide) (q_idx slice22 ha33 rfl rfl) ?_
            refine GoOps.q (v := .pointer (some (a32.add 2))) rfl rfl (by decide) (q_fieldAddr foff29_2 rfl) ?_
            obtain ⟨x34, hx35, h⟩ := h
            refine GoOps.q (v := .int .i64 x34) rfl rfl (by decide) (q_load scalar3 rfl hx35) ?_
            refine GoOps.q (v := .int .i64 p0) rfl rfl (by decide) (q_move e23_0) ?_
            refine GoOps.q (v := .int .i64 y31) rfl rfl (by decide) (q_move rfl) ?_
            refine GoOps.q (v := .int .i64 (IntKind.wrap .i64 (p0 - y31))) rfl rfl (by decide) (q_sub rfl rfl) ?_
            refine call_dst rfl (by decide) body8 (keelsonalike_Round_s _ _ _ _ h) rfl ?_
            rintro _ H36 ⟨y37, rfl, h⟩
            refine GoOps.q (v := .int .i64 (IntKind.wrap .i64 (1 + y37))) rfl rfl (by decide) (q_add rfl rfl) ?_
            refine GoOps.q (v := .int .i64 (IntKind.wrap .i64 (1 + y37))) rfl rfl (by decide) (q_assign rfl) ?_
            refine GoOps.nil ?_
            refine Go.seq ?_
            refine Go.region rfl ?_
            refine GoOps.q (v := Sl.v Sl.nil) rfl rfl (by decide) (q_assign rfl) ?_
            refine GoOps.nil ?_
            refine Go.seq ?_
            refine Go.region rfl ?_
            refine GoOps.q (v := .int .i64 0) rfl rfl (by decide) (q_assign rfl) ?_
            refine GoOps.nil ?_
            refine Go.seq ?_
            refine Go.seq ?_
            refine Go.region rfl ?_
            refine GoOps.q (v := Sl.v p1) rfl rfl (by decide) (q_move e23_1) ?_
            refine GoOps.q (v := .int .i64 s21) rfl rfl (by decide) (q_move e23_7) ?_
            obtain ⟨a38, ha39, h⟩ := h
            refine GoOps.q (v := .pointer (some a38)) rfl rfl (by decide) (q_idx slice22 ha39 rfl rfl) ?_
            refine GoOps.q (v := .pointer (some (a38.add 0))) rfl rfl (by decide) (q_fieldAddr foff29_0 rfl) ?_
            obtain ⟨x40, hx41, h⟩ := h
            refine GoOps.q (v := .int .i64 x40) rfl rfl (by decide) (q_load scalar3 rfl hx41) ?_
            refine GoOps.nil ?_
            refine join_go 1 (fun ρ (s42 : Sl × Int) => ρ 0 = .int .i64 p0 ∧ ρ 1 = Sl.v p1 ∧ ρ 5 = .pointer y15 ∧ ρ 6 = Sl.v r17 ∧ ρ 7 = .int .i64 s21 ∧ ρ 10 = Sl.v s42.1 ∧ ρ 11 = .int .i64 s42.2) h ?_ ?_ <;> clear h
            · intro s42 H44 ρ h hE
              obtain ⟨e45_0, e45_1, e45_5, e45_6, e45_7, e45_10, e45_11⟩ := hE
              refine Go.seq ?_
              refine Go.seq ?_
              refine Go.region rfl ?_
              refine GoOps.q (v := Sl.v p1) rfl rfl (by decide) (q_move e45_1) ?_
              refine GoOps.q (v := .int .i64 s21) rfl rfl (by decide) (q_move e45_7) ?_
              obtain ⟨a46, ha47, h⟩ := h
              refine GoOps.q (v := .pointer (some a46)) rfl rfl (by decide) (q_idx slice22 ha47 rfl rfl) ?_
              refine GoOps.q (v := .pointer (some (a46.add 0))) rfl rfl (by decide) (q_fieldAddr foff29_0 rfl) ?_
              obtain ⟨x48, hx49, h⟩ := h
              refine GoOps.q (v := .int .i64 x48) rfl rfl (by decide) (q_load scalar3 rfl hx49) ?_
              refine GoOps.q (v := .bool (x48 == 1)) rfl rfl (by decide) (q_eql rfl rfl) ?_
              refine GoOps.q (v := .bool (x48 == 1)) rfl rfl (by decide) (q_move rfl) ?_
              refine join_ops 7 (fun ρ (s51 : Bool) => ρ 0 = .int .i64 p0 ∧ ρ 1 = Sl.v p1 ∧ ρ 5 = .pointer y15 ∧ ρ 6 = Sl.v r17 ∧ ρ 7 = .int .i64 s21 ∧ ρ 10 = Sl.v s42.1 ∧ ρ 11 = .int .i64 s42.2 ∧ ρ 123 = .bool s51) h ?_ ?_ <;> clear h
              · intro s51 H53 ρ h hE
                obtain ⟨e54_0, e54_1, e54_5, e54_6, e54_7, e54_10, e54_11, e54_123⟩ := hE
                refine GoOps.nil ?_
                refine join_go 1 (fun ρ (s55 : Unit) => ρ 0 = .int .i64 p0 ∧ ρ 1 = Sl.v p1 ∧ ρ 5 = .pointer y15 ∧ ρ 6 = Sl.v r17 ∧ ρ 7 = .int .i64 s21 ∧ ρ 10 = Sl.v s42.1 ∧ ρ 11 = .int .i64 s42.2) h ?_ ?_ <;> clear h
                · intro s55 H57 ρ h hE
                  obtain ⟨e58_0, e58_1, e58_5, e58_6, e58_7, e58_10, e58_11⟩ := hE
                  refine Go.seq ?_
                  refine Go.seq ?_
                  refine Go.region rfl ?_
                  refine GoOps.q (v := .int .i64 s42.2) rfl rfl (by decide) (q_move e58_11) ?_
                  refine GoOps.q (v := .bool (s42.2 != 0)) rfl rfl (by decide) (q_neq rfl rfl) ?_
                  refine GoOps.nil ?_
                  refine join_go 1 (fun ρ (s59 : Sl) => ρ 0 = .int .i64 p0 ∧ ρ 1 = Sl.v p1 ∧ ρ 5 = .pointer y15 ∧ ρ 6 = Sl.v r17 ∧ ρ 7 = .int .i64 s21 ∧ ρ 10 = Sl.v s59) h ?_ ?_ <;> clear h
                  · intro s59 H61 ρ h hE
                    obtain ⟨e62_0, e62_1, e62_5, e62_6, e62_7, e62_10⟩ := hE
                    refine Go.seq ?_
                    refine Go.region rfl ?_
                    refine GoOps.q (v := .int .i64 0) rfl rfl (by decide) (q_assign rfl) ?_
                    refine GoOps.nil ?_
                    refine Go.block ?_
                    refine loop_go (fun ρ (s63 : Int) => ρ 0 = .int .i64 p0 ∧ ρ 1 = Sl.v p1 ∧ ρ 5 = .pointer y15 ∧ ρ 6 = Sl.v r17 ∧ ρ 7 = .int .i64 s21 ∧ ρ 10 = Sl.v s59 ∧ ρ 12 = .int .i64 s63) h ⟨e62_0, e62_1, e62_5, e62_6, e62_7, e62_10, rfl⟩ ?_
                    clear h
                    intro ρ s63 H66 again64 hE h hagain64
                    obtain ⟨e65_0, e65_1, e65_5, e65_6, e65_7, e65_10, e65_12⟩ := hE
                    refine Go.seq ?_
                    refine Go.seq ?_
                    refine Go.region rfl ?_
                    refine GoOps.q (v := .int .i64 s63) rfl rfl (by decide) (q_move e65_12) ?_
                    refine GoOps.q (v := Sl.v s59) rfl rfl (by decide) (q_move e65_10) ?_
                    refine GoOps.q (v := .int .i64 (s59.len : Int)) rfl rfl (by decide) (q_len Try.underlying26 rfl (ls1 rfl)) ?_
                    refine GoOps.q (v := .bool (decide (s63 < (s59.len : Int)))) rfl rfl (by decide) (q_lss rfl rfl) ?_
                    refine GoOps.nil ?_
                    rcases bor (decide (s63 < (s59.len : Int))) with hc67 | hc67
                    · have h := h.1 hc67
                      refine Go.condT (btT rfl hc67) ?_
                      refine Go.skip ?_
                      refine Go.seq ?_
                      refine Go.block ?_
                      refine Go.seq ?_
                      refine Go.seq ?_
                      refine Go.region rfl ?_
                      refine GoOps.q (v := Sl.v s59) rfl rfl (by decide) (q_move e65_10) ?_
                      refine GoOps.q (v := .int .i64 s63) rfl rfl (by decide) (q_move e65_12) ?_
                      obtain ⟨a68, ha69, h⟩ := h
                      refine GoOps.q (v := .pointer (some a68)) rfl rfl (by decide) (q_idx slice26 ha69 rfl rfl) ?_
                      obtain ⟨x70, hx71, h⟩ := h
                      refine GoOps.q (v := .int .i64 x70) rfl rfl (by decide) (q_load scalar3 rfl hx71) ?_
                      refine GoOps.q (v := .bool (decide (x70 < 1))) rfl rfl (by decide) (q_lss rfl rfl) ?_
                      refine GoOps.q (v := .bool (decide (x70 < 1))) rfl rfl (by decide) (q_move rfl) ?_
                      refine join_ops 8 (fun ρ (s73 : Bool) => ρ 0 = .int .i64 p0 ∧ ρ 1 = Sl.v p1 ∧ ρ 5 = .pointer y15 ∧ ρ 6 = Sl.v r17 ∧ ρ 7 = .int .i64 s21 ∧ ρ 10 = Sl.v s59 ∧ ρ 12 = .int .i64 s63 ∧ ρ 153 = .bool s73) h ?_ ?_ <;> clear h
                      · intro s73 H75 ρ h hE
                        obtain ⟨e76_0, e76_1, e76_5, e76_6, e76_7, e76_10, e76_12, e76_153⟩ := hE
                        refine GoOps.q (v := .bool s73) rfl rfl (by decide) (q_move e76_153) ?_
                        refine join_ops 9 (fun ρ (s78 : Bool) => ρ 0 = .int .i64 p0 ∧ ρ 1 = Sl.v p1 ∧ ρ 5 = .pointer y15 ∧ ρ 6 = Sl.v r17 ∧ ρ 7 = .int .i64 s21 ∧ ρ 10 = Sl.v s59 ∧ ρ 12 = .int .i64 s63 ∧ ρ 163 = .bool s78) h ?_ ?_ <;> clear h
                        · intro s78 H80 ρ h hE
                          obtain ⟨e81_0, e81_1, e81_5, e81_6, e81_7, e81_10, e81_12, e81_163⟩ := hE
                          refine GoOps.nil ?_
                          rcases bor s78 with hc82 | hc82
                          · have h := h.1 hc82
                            refine Go.condT (btT e81_163 hc82) ?_
                            refine Go.seq ?_
                            refine Go.region rfl ?_
                            refine GoOps.q (v := .bool false) rfl rfl (by decide) (q_assign rfl) ?_
                            refine GoOps.nil ?_
                            exact Go.ret ⟨.inl rfl, _, _, DOk.nil, (resOk1 Try.results4 rfl), ⟨_, rfl, h⟩⟩
                          · have h := h.2 hc82
                            refine Go.condF (btF e81_163 hc82) ?_
                            refine Go.skip ?_
                            refine Go.region rfl ?_
                            refine GoOps.q (v := Sl.v r17) rfl rfl (by decide) (q_move e81_6) ?_
                            refine GoOps.q (v := Sl.v s59) rfl rfl (by decide) (q_move e81_10) ?_
                            refine GoOps.q (v := .int .i64 s63) rfl rfl (by decide) (q_move e81_12) ?_
                            obtain ⟨a83, ha84, h⟩ := h
                            refine GoOps.q (v := .pointer (some a83)) rfl rfl (by decide) (q_idx slice26 ha84 rfl rfl) ?_
                            obtain ⟨x85, hx86, h⟩ := h
                            refine GoOps.q (v := .int .i64 x85) rfl rfl (by decide) (q_load scalar3 rfl hx86) ?_
                            obtain ⟨a87, ha88, h⟩ := h
                            refine GoOps.q (v := .pointer (some a87)) rfl rfl (by decide) (q_idx slice38 ha88 rfl rfl) ?_
                            obtain ⟨q90b, q90o, q90c, q90e, hq90a, hq90b, hq90l, hq90v, h⟩ := h
                            refine op_none rfl rfl (do_store (vs := [.bool false]) size4 (pta rfl hq90a) rfl rfl rfl hq90v hq90b hq90l ?_) 
                            refine GoOps.nil ?_
                            refine Go.inBlock ?_
                            refine Go.region rfl ?_
                            refine GoOps.q (v := .int .i64 s63) rfl rfl (by decide) (q_move e81_12) ?_
                            refine GoOps.q (v := .int .i64 (IntKind.wrap .i64 (s63 + 1))) rfl rfl (by decide) (q_add rfl rfl) ?_
                            refine GoOps.q (v := .int .i64 (IntKind.wrap .i64 (s63 + 1))) rfl rfl (by decide) (q_assign rfl) ?_
                            refine GoOps.nil ?_
                            exact hagain64 _ _ _ h ⟨e81_0, e81_1, e81_5, e81_6, e81_7, e81_10, rfl⟩
                        · intro j79 hj79 h
                          rcases bor s73 with hc77 | hc77
                          · have h := h.1 hc77
                            refine no_dst (want_no rfl rfl rfl hc77) rfl (by decide) ?_
                            refine no_dst (want_no rfl rfl rfl hc77) rfl (by decide) ?_
                            refine no_dst (want_no rfl rfl rfl hc77) rfl (by decide) ?_
                            refine no_dst (want_no rfl rfl rfl hc77) rfl (by decide) ?_
                            refine no_dst (want_no rfl rfl rfl hc77) rfl (by decide) ?_
                            refine no_dst (want_no rfl rfl rfl hc77) rfl (by decide) ?_
                            refine no_dst (want_no rfl rfl rfl hc77) rfl (by decide) ?_
                            refine no_dst (want_no rfl rfl rfl hc77) rfl (by decide) ?_
                            refine GoOps.q (v := .bool true) rfl rfl (by decide) (q_pickT (btT rfl hc77) rfl) ?_
                            exact hj79 true _ _ h (by exact ⟨e76_0, e76_1, e76_5, e76_6, e76_7, e76_10, e76_12, rfl⟩)
                          · have h := h.2 hc77
                            refine GoOps.q (v := Sl.v r17) (want_yes rfl rfl rfl hc77) rfl (by decide) (q_move e76_6) ?_
                            refine GoOps.q (v := Sl.v s59) (want_yes rfl rfl rfl hc77) rfl (by decide) (q_move e76_10) ?_
                            refine GoOps.q (v := .int .i64 s63) (want_yes rfl rfl rfl hc77) rfl (by decide) (q_move e76_12) ?_
                            obtain ⟨a91, ha92, h⟩ := h
                            refine GoOps.q (v := .pointer (some a91)) (want_yes rfl rfl rfl hc77) rfl (by decide) (q_idx slice26 ha92 rfl rfl) ?_
                            obtain ⟨x93, hx94, h⟩ := h
                            refine GoOps.q (v := .int .i64 x93) (want_yes rfl rfl rfl hc77) rfl (by decide) (q_load scalar3 rfl hx94) ?_
                            obtain ⟨a95, ha96, h⟩ := h
                            refine GoOps.q (v := .pointer (some a95)) (want_yes rfl rfl rfl hc77) rfl (by decide) (q_idx slice38 ha96 rfl rfl) ?_
                            obtain ⟨x97, hx98, h⟩ := h
                            refine GoOps.q (v := .bool x97) (want_yes rfl rfl rfl hc77) rfl (by decide) (q_load scalar4 rfl hx98) ?_
                            refine GoOps.q (v := .bool (!x97)) (want_yes rfl rfl rfl hc77) rfl (by decide) (q_not rfl) ?_
                            refine GoOps.q (v := .bool (!x97)) rfl rfl (by decide) (q_pickF (btF rfl hc77) rfl) ?_
                            exact hj79 (!x97) _ _ h (by exact ⟨e76_0, e76_1, e76_5, e76_6, e76_7, e76_10, e76_12, rfl⟩)
                      · intro j74 hj74 h
                        rcases bor (decide (x70 < 1)) with hc72 | hc72
                        · have h := h.1 hc72
                          refine no_dst (want_no rfl rfl rfl hc72) rfl (by decide) ?_
                          refine no_dst (want_no rfl rfl rfl hc72) rfl (by decide) ?_
                          refine no_dst (want_no rfl rfl rfl hc72) rfl (by decide) ?_
                          refine no_dst (want_no rfl rfl rfl hc72) rfl (by decide) ?_
                          refine no_dst (want_no rfl rfl rfl hc72) rfl (by decide) ?_
                          refine no_dst (want_no rfl rfl rfl hc72) rfl (by decide) ?_
                          refine no_dst (want_no rfl rfl rfl hc72) rfl (by decide) ?_
                          refine GoOps.q (v := .bool true) rfl rfl (by decide) (q_pickT (btT rfl hc72) rfl) ?_
                          exact hj74 true _ _ h (by exact ⟨e65_0, e65_1, e65_5, e65_6, e65_7, e65_10, e65_12, rfl⟩)
                        · have h := h.2 hc72
                          refine GoOps.q (v := Sl.v s59) (want_yes rfl rfl rfl hc72) rfl (by decide) (q_move e65_10) ?_
                          refine GoOps.q (v := .int .i64 s63) (want_yes rfl rfl rfl hc72) rfl (by decide) (q_move e65_12) ?_
                          obtain ⟨a99, ha100, h⟩ := h
                          refine GoOps.q (v := .pointer (some a99)) (want_yes rfl rfl rfl hc72) rfl (by decide) (q_idx slice26 ha100 rfl rfl) ?_
                          obtain ⟨x101, hx102, h⟩ := h
                          refine GoOps.q (v := .int .i64 x101) (want_yes rfl rfl rfl hc72) rfl (by decide) (q_load scalar3 rfl hx102) ?_
                          refine GoOps.q (v := Sl.v p1) (want_yes rfl rfl rfl hc72) rfl (by decide) (q_move e65_1) ?_
                          refine GoOps.q (v := .int .i64 (p1.len : Int)) (want_yes rfl rfl rfl hc72) rfl (by decide) (q_len Try.underlying22 rfl (ls1 rfl)) ?_
                          refine GoOps.q (v := .bool (decide ((p1.len : Int) < x101))) (want_yes rfl rfl rfl hc72) rfl (by decide) (q_gtr rfl rfl) ?_
                          refine GoOps.q (v := .bool (decide ((p1.len : Int) < x101))) rfl rfl (by decide) (q_pickF (btF rfl hc72) rfl) ?_
                          exact hj74 (decide ((p1.len : Int) < x101)) _ _ h (by exact ⟨e65_0, e65_1, e65_5, e65_6, e65_7, e65_10, e65_12, rfl⟩)
                    · have h := h.2 hc67
                      refine Go.condF (btF rfl hc67) ?_
                      refine Go.exit rfl ?_
                      refine Go.inBlock ?_
                      refine Go.region rfl ?_
                      refine GoOps.q (v := .int .i64 s21) rfl rfl (by decide) (q_move e65_7) ?_
                      refine GoOps.q (v := .int .i64 (IntKind.wrap .i64 (s21 + 1))) rfl rfl (by decide) (q_add rfl rfl) ?_
                      refine GoOps.q (v := .int .i64 (IntKind.wrap .i64 (s21 + 1))) rfl rfl (by decide) (q_assign rfl) ?_
                      refine GoOps.nil ?_
                      exact hagain22 _ _ _ h ⟨e65_0, e65_1, e65_5, e65_6, rfl⟩
                  · intro j60 hj60 h
                    rcases bor (s42.2 != 0) with hc103 | hc103
                    · have h := h.1 hc103
                      refine Go.condT (btT rfl hc103) ?_
                      refine Go.region rfl ?_
                      refine GoOps.q (v := Sl.v s42.1) rfl rfl (by decide) (q_move e58_10) ?_
                      refine GoOps.q (v := .int .i64 s42.2) rfl rfl (by decide) (q_move e58_11) ?_
                      refine op_dst rfl rfl (by decide) (do_bs (ps := [(0, .int .i64 s42.2)]) (zs := [.int .i64 0]) (cs := [.int .i64 s42.2]) slice26 zero3 rfl rfl (by decide) (by decide) rfl rfl fun r104 H105 hb106 => ?_) 
                      have h := h r104 H105 hb106
                      refine op_dst rfl rfl (by decide) (do_append (zs := [.int .i64 0]) slice26 bytes3 (by decide) zero3 rfl rfl (by decide) rfl rfl Try.underlying26 rfl h fun r107 H108 h => ?_) 
                      refine GoOps.q (v := Sl.v r107) rfl rfl (by decide) (q_assign rfl) ?_
                      refine GoOps.nil ?_
                      exact hj60 _ _ _ h ⟨e58_0, e58_1, e58_5, e58_6, e58_7, rfl⟩
                    · have h := h.2 hc103
                      refine Go.condF (btF rfl hc103) ?_
                      refine Go.skip ?_
                      exact hj60 _ _ _ h ⟨e58_0, e58_1, e58_5, e58_6, e58_7, e58_10⟩
                · intro j56 hj56 h
                  rcases bor s51 with hc109 | hc109
                  · have h := h.1 hc109
                    refine Go.condT (btT e54_123 hc109) ?_
                    refine Go.region rfl ?_
                    refine GoOps.q (v := Sl.v r17) rfl rfl (by decide) (q_move e54_6) ?_
                    refine GoOps.q (v := .int .i64 s21) rfl rfl (by decide) (q_move e54_7) ?_
                    refine GoOps.q (v := .int .i64 (IntKind.wrap .i64 (s21 + 1))) rfl rfl (by decide) (q_add rfl rfl) ?_
                    obtain ⟨a110, ha111, h⟩ := h
                    refine GoOps.q (v := .pointer (some a110)) rfl rfl (by decide) (q_idx slice38 ha111 rfl rfl) ?_
                    obtain ⟨q113b, q113o, q113c, q113e, hq113a, hq113b, hq113l, hq113v, h⟩ := h
                    refine op_none rfl rfl (do_store (vs := [.bool true]) size4 (pta rfl hq113a) rfl rfl rfl hq113v hq113b hq113l ?_) 
                    refine GoOps.nil ?_
                    exact hj56 _ _ _ h ⟨e54_0, e54_1, e54_5, e54_6, e54_7, e54_10, e54_11⟩
                  · have h := h.2 hc109
                    refine Go.condF (btF e54_123 hc109) ?_
                    refine Go.skip ?_
                    exact hj56 _ _ _ h ⟨e54_0, e54_1, e54_5, e54_6, e54_7, e54_10, e54_11⟩
              · intro j52 hj52 h
                rcases bor (x48 == 1) with hc50 | hc50
                · have h := h.1 hc50
                  refine no_dst (want_no rfl rfl rfl hc50) rfl (by decide) ?_
                  refine no_dst (want_no rfl rfl rfl hc50) rfl (by decide) ?_
                  refine no_dst (want_no rfl rfl rfl hc50) rfl (by decide) ?_
                  refine no_dst (want_no rfl rfl rfl hc50) rfl (by decide) ?_
                  refine no_dst (want_no rfl rfl rfl hc50) rfl (by decide) ?_
                  refine no_dst (want_no rfl rfl rfl hc50) rfl (by decide) ?_
                  refine GoOps.q (v := .bool true) rfl rfl (by decide) (q_pickT (btT rfl hc50) rfl) ?_
                  exact hj52 true _ _ h (by exact ⟨e45_0, e45_1, e45_5, e45_6, e45_7, e45_10, e45_11, rfl⟩)
                · have h := h.2 hc50
                  refine GoOps.q (v := Sl.v p1) (want_yes rfl rfl rfl hc50) rfl (by decide) (q_move e45_1) ?_
                  refine GoOps.q (v := .int .i64 s21) (want_yes rfl rfl rfl hc50) rfl (by decide) (q_move e45_7) ?_
                  obtain ⟨a114, ha115, h⟩ := h
                  refine GoOps.q (v := .pointer (some a114)) (want_yes rfl rfl rfl hc50) rfl (by decide) (q_idx slice22 ha115 rfl rfl) ?_
                  refine GoOps.q (v := .pointer (some (a114.add 0))) (want_yes rfl rfl rfl hc50) rfl (by decide) (q_fieldAddr foff29_0 rfl) ?_
                  obtain ⟨x116, hx117, h⟩ := h
                  refine GoOps.q (v := .int .i64 x116) (want_yes rfl rfl rfl hc50) rfl (by decide) (q_load scalar3 rfl hx117) ?_
                  refine GoOps.q (v := .bool (x116 == 5)) (want_yes rfl rfl rfl hc50) rfl (by decide) (q_eql rfl rfl) ?_
                  refine GoOps.q (v := .bool (x116 == 5)) rfl rfl (by decide) (q_pickF (btF rfl hc50) rfl) ?_
                  exact hj52 (x116 == 5) _ _ h (by exact ⟨e45_0, e45_1, e45_5, e45_6, e45_7, e45_10, e45_11, rfl⟩)
            · intro j43 hj43 h
              refine Go.block ?_
              refine Go.seq ?_
              refine Go.region rfl ?_
              refine GoOps.q (v := .bool (x40 == 1)) rfl rfl (by decide) (q_eql rfl rfl) ?_
              refine GoOps.q (v := .bool (x40 == 1)) rfl rfl (by decide) (q_assign rfl) ?_
              refine GoOps.nil ?_
              rcases bor (x40 == 1) with hc118 | hc118
              · have h := h.1 hc118
                refine Go.condT (btT rfl hc118) ?_
                refine Go.region rfl ?_
                refine GoOps.q (v := .pointer y15) rfl rfl (by decide) (q_move e23_5) ?_
                refine GoOps.q (v := .int .i64 y31) rfl rfl (by decide) (q_move rfl) ?_
                refine GoOps.q (v := .int .i64 s21) rfl rfl (by decide) (q_move e23_7) ?_
                refine GoOps.q (v := .int .i64 (IntKind.wrap .i64 (s21 + 1))) rfl rfl (by decide) (q_add rfl rfl) ?_
                refine call_dst rfl (by decide) body9 (image_Image_Write_s _ _ _ _ _ h) rfl ?_
                rintro _ H119 ⟨y120, y121, rfl, h⟩
                refine GoOps.q (v := .tuple #[.int .i64 y120, .bool y121]) rfl rfl (by decide) (q_move rfl) ?_
                refine GoOps.q (v := .int .i64 y120) rfl rfl (by decide) (q_extract rfl rfl) ?_
                refine GoOps.q (v := .bool y121) rfl rfl (by decide) (q_extract rfl rfl) ?_
                refine GoOps.q (v := .int .i64 y120) rfl rfl (by decide) (q_assign rfl) ?_
                refine GoOps.nil ?_
                refine Go.inBlock ?_
                exact hj43 _ _ _ h ⟨e23_0, e23_1, e23_5, e23_6, e23_7, rfl, rfl⟩
              · have h := h.2 hc118
                refine Go.condF (btF rfl hc118) ?_
                refine Go.seq ?_
                refine Go.region rfl ?_
                refine GoOps.q (v := .bool (x40 == 2)) rfl rfl (by decide) (q_eql rfl rfl) ?_
                refine GoOps.q (v := .bool (x40 == 2)) rfl rfl (by decide) (q_assign rfl) ?_
                refine GoOps.nil ?_
                rcases bor (x40 == 2) with hc122 | hc122
                · have h := h.1 hc122
                  refine Go.condT (btT rfl hc122) ?_
                  refine Go.region rfl ?_
                  refine GoOps.q (v := .pointer y15) rfl rfl (by decide) (q_move e23_5) ?_
                  refine GoOps.q (v := .int .i64 y31) rfl rfl (by decide) (q_move rfl) ?_
                  refine GoOps.q (v := .int .i64 (IntKind.wrap .i64 (1 + y37))) rfl rfl (by decide) (q_move rfl) ?_
                  refine call_dst rfl (by decide) body10 (image_Image_Trim_s _ _ _ _ _ h) rfl ?_
                  rintro _ H123 ⟨y124, y125, rfl, h⟩
                  refine GoOps.q (v := .tuple #[Sl.v y124, .bool y125]) rfl rfl (by decide) (q_move rfl) ?_
                  refine GoOps.q (v := Sl.v y124) rfl rfl (by decide) (q_extract rfl rfl) ?_
                  refine GoOps.q (v := .bool y125) rfl rfl (by decide) (q_extract rfl rfl) ?_
                  refine GoOps.q (v := Sl.v y124) rfl rfl (by decide) (q_assign rfl) ?_
                  refine GoOps.nil ?_
                  refine Go.inBlock ?_
                  exact hj43 _ _ _ h ⟨e23_0, e23_1, e23_5, e23_6, e23_7, rfl, rfl⟩
                · have h := h.2 hc122
                  refine Go.condF (btF rfl hc122) ?_
                  refine Go.seq ?_
                  refine Go.region rfl ?_
                  refine GoOps.q (v := .bool (x40 == 3)) rfl rfl (by decide) (q_eql rfl rfl) ?_
                  refine GoOps.q (v := .bool (x40 == 3)) rfl rfl (by decide) (q_assign rfl) ?_
                  refine GoOps.nil ?_
                  rcases bor (x40 == 3) with hc126 | hc126
                  · have h := h.1 hc126
                    refine Go.condT (btT rfl hc126) ?_
                    refine Go.region rfl ?_
                    refine GoOps.q (v := .pointer y15) rfl rfl (by decide) (q_move e23_5) ?_
                    refine call_dst rfl (by decide) body11 (image_Image_Commit_s _ _ _ h) rfl ?_
                    rintro _ H127 ⟨y128, rfl, h⟩
                    refine GoOps.q (v := Sl.v y128) rfl rfl (by decide) (q_assign rfl) ?_
                    refine GoOps.nil ?_
                    refine Go.inBlock ?_
                    exact hj43 _ _ _ h ⟨e23_0, e23_1, e23_5, e23_6, e23_7, rfl, rfl⟩
                  · have h := h.2 hc126
                    refine Go.condF (btF rfl hc126) ?_
                    refine Go.seq ?_
                    refine Go.region rfl ?_
                    refine GoOps.q (v := .bool (x40 == 4)) rfl rfl (by decide) (q_eql rfl rfl) ?_
                    refine GoOps.q (v := .bool (x40 == 4)) rfl rfl (by decide) (q_assign rfl) ?_
                    refine GoOps.nil ?_
                    rcases bor (x40 == 4) with hc129 | hc129
                    · have h := h.1 hc129
                      refine Go.condT (btT rfl hc129) ?_
                      refine Go.region rfl ?_
                      refine GoOps.q (v := .pointer y15) rfl rfl (by decide) (q_move e23_5) ?_
                      refine call_dst rfl (by decide) body12 (image_Image_Forget_s _ _ _ h) rfl ?_
                      rintro _ H130 ⟨y131, rfl, h⟩
                      refine GoOps.q (v := Sl.v y131) rfl rfl (by decide) (q_assign rfl) ?_
                      refine GoOps.nil ?_
                      refine Go.inBlock ?_
                      exact hj43 _ _ _ h ⟨e23_0, e23_1, e23_5, e23_6, e23_7, rfl, rfl⟩
                    · have h := h.2 hc129
                      refine Go.condF (btF rfl hc129) ?_
                      refine Go.seq ?_
                      refine Go.region rfl ?_
                      refine GoOps.q (v := .bool (x40 == 5)) rfl rfl (by decide) (q_eql rfl rfl) ?_
                      refine GoOps.q (v := .bool (x40 == 5)) rfl rfl (by decide) (q_assign rfl) ?_
                      refine GoOps.nil ?_
                      rcases bor (x40 == 5) with hc132 | hc132
                      · have h := h.1 hc132
                        refine Go.condT (btT rfl hc132) ?_
                        refine Go.region rfl ?_
                        refine GoOps.q (v := .pointer y15) rfl rfl (by decide) (q_move e23_5) ?_
                        refine GoOps.q (v := .int .i64 y31) rfl rfl (by decide) (q_move rfl) ?_
                        refine GoOps.q (v := .int .i64 s21) rfl rfl (by decide) (q_move e23_7) ?_
                        refine GoOps.q (v := .int .i64 (IntKind.wrap .i64 (s21 + 1))) rfl rfl (by decide) (q_add rfl rfl) ?_
                        refine call_dst rfl (by decide) body13 (image_Image_Put_s _ _ _ _ _ h) rfl ?_
                        rintro _ H133 ⟨y134, y135, rfl, h⟩
                        refine GoOps.q (v := .tuple #[.int .i64 y134, .bool y135]) rfl rfl (by decide) (q_move rfl) ?_
                        refine GoOps.q (v := .int .i64 y134) rfl rfl (by decide) (q_extract rfl rfl) ?_
                        refine GoOps.q (v := .bool y135) rfl rfl (by decide) (q_extract rfl rfl) ?_
                        refine GoOps.q (v := .int .i64 y134) rfl rfl (by decide) (q_assign rfl) ?_
                        refine GoOps.nil ?_
                        refine Go.inBlock ?_
                        exact hj43 _ _ _ h ⟨e23_0, e23_1, e23_5, e23_6, e23_7, rfl, rfl⟩
                      · have h := h.2 hc132
                        refine Go.condF (btF rfl hc132) ?_
                        refine Go.seq ?_
                        refine Go.region rfl ?_
                        refine GoOps.q (v := .bool (x40 == 6)) rfl rfl (by decide) (q_eql rfl rfl) ?_
                        refine GoOps.q (v := .bool (x40 == 6)) rfl rfl (by decide) (q_assign rfl) ?_
                        refine GoOps.nil ?_
                        rcases bor (x40 == 6) with hc136 | hc136
                        · have h := h.1 hc136
                          refine Go.condT (btT rfl hc136) ?_
                          refine Go.region rfl ?_
                          refine GoOps.q (v := .pointer y15) rfl rfl (by decide) (q_move e23_5) ?_
                          refine GoOps.q (v := .int .i64 y31) rfl rfl (by decide) (q_move rfl) ?_
                          refine GoOps.q (v := .int .i64 (IntKind.wrap .i64 (1 + y37))) rfl rfl (by decide) (q_move rfl) ?_
                          refine call_dst rfl (by decide) body14 (image_Image_Drop_s _ _ _ _ _ h) rfl ?_
                          rintro _ H137 ⟨y138, y139, rfl, h⟩
                          refine GoOps.q (v := .tuple #[Sl.v y138, .bool y139]) rfl rfl (by decide) (q_move rfl) ?_
                          refine GoOps.q (v := Sl.v y138) rfl rfl (by decide) (q_extract rfl rfl) ?_
                          refine GoOps.q (v := .bool y139) rfl rfl (by decide) (q_extract rfl rfl) ?_
                          refine GoOps.q (v := Sl.v y138) rfl rfl (by decide) (q_assign rfl) ?_
                          refine GoOps.nil ?_
                          refine Go.inBlock ?_
                          exact hj43 _ _ _ h ⟨e23_0, e23_1, e23_5, e23_6, e23_7, rfl, rfl⟩
                        · have h := h.2 hc136
                          refine Go.condF (btF rfl hc136) ?_
                          refine Go.skip ?_
                          refine Go.inBlock ?_
                          exact hj43 _ _ _ h ⟨e23_0, e23_1, e23_5, e23_6, e23_7, rfl, rfl⟩
          · have h := h.2 hc25
            refine Go.condF (btF rfl hc25) ?_
            refine Go.exit rfl ?_
            refine Go.seq ?_
            refine Go.region rfl ?_
            refine GoOps.q (v := .pointer y15) rfl rfl (by decide) (q_move e23_5) ?_
            refine call_dst rfl (by decide) body18 (keelsonlaw16_refs_s _ _ _ _ h) rfl ?_
            rintro _ H140 ⟨y141, rfl, h⟩
            refine GoOps.q (v := Sl.v y141) rfl rfl (by decide) (q_assign rfl) ?_
            refine GoOps.nil ?_
            refine Go.seq ?_
            refine Go.seq ?_
            refine Go.region rfl ?_
            refine GoOps.q (v := .int .i64 0) rfl rfl (by decide) (q_assign rfl) ?_
            refine GoOps.nil ?_
            refine Go.block ?_
            refine loop_go (fun ρ (s142 : Int) => ρ 1 = Sl.v p1 ∧ ρ 6 = Sl.v r17 ∧ ρ 13 = Sl.v y141 ∧ ρ 14 = .int .i64 s142) h ⟨e23_1, e23_6, rfl, rfl⟩ ?_
            clear h
            intro ρ s142 H145 again143 hE h hagain143
            obtain ⟨e144_1, e144_6, e144_13, e144_14⟩ := hE
            refine Go.seq ?_
            refine Go.seq ?_
            refine Go.region rfl ?_
            refine GoOps.q (v := .int .i64 s142) rfl rfl (by decide) (q_move e144_14) ?_
            refine GoOps.q (v := Sl.v y141) rfl rfl (by decide) (q_move e144_13) ?_
            refine GoOps.q (v := .int .i64 (y141.len : Int)) rfl rfl (by decide) (q_len Try.underlying39 rfl (ls1 rfl)) ?_
            refine GoOps.q (v := .bool (decide (s142 < (y141.len : Int)))) rfl rfl (by decide) (q_lss rfl rfl) ?_
            refine GoOps.nil ?_
            rcases bor (decide (s142 < (y141.len : Int))) with hc146 | hc146
            · have h := h.1 hc146
              refine Go.condT (btT rfl hc146) ?_
              refine Go.skip ?_
              refine Go.seq ?_
              refine Go.block ?_
              refine Go.seq ?_
              refine Go.seq ?_
              refine Go.region rfl ?_
              refine GoOps.q (v := Sl.v y141) rfl rfl (by decide) (q_move e144_13) ?_
              refine GoOps.q (v := .int .i64 s142) rfl rfl (by decide) (q_move e144_14) ?_
              obtain ⟨a147, ha148, h⟩ := h
              refine GoOps.q (v := .pointer (some a147)) rfl rfl (by decide) (q_idx slice39 ha148 rfl rfl) ?_
              refine GoOps.q (v := .pointer (some (a147.add 1))) rfl rfl (by decide) (q_fieldAddr foff42_1 rfl) ?_
              obtain ⟨x149, hx150, h⟩ := h
              refine GoOps.q (v := .int .i64 x149) rfl rfl (by decide) (q_load scalar3 rfl hx150) ?_
              refine GoOps.q (v := .bool (decide (x149 < 1))) rfl rfl (by decide) (q_lss rfl rfl) ?_
              refine GoOps.q (v := .bool (decide (x149 < 1))) rfl rfl (by decide) (q_move rfl) ?_
              refine join_ops 9 (fun ρ (s152 : Bool) => ρ 1 = Sl.v p1 ∧ ρ 6 = Sl.v r17 ∧ ρ 13 = Sl.v y141 ∧ ρ 14 = .int .i64 s142 ∧ ρ 193 = .bool s152) h ?_ ?_ <;> clear h
              · intro s152 H154 ρ h hE
                obtain ⟨e155_1, e155_6, e155_13, e155_14, e155_193⟩ := hE
                refine GoOps.q (v := .bool s152) rfl rfl (by decide) (q_move e155_193) ?_
                refine join_ops 10 (fun ρ (s157 : Bool) => ρ 1 = Sl.v p1 ∧ ρ 6 = Sl.v r17 ∧ ρ 13 = Sl.v y141 ∧ ρ 14 = .int .i64 s142 ∧ ρ 204 = .bool s157) h ?_ ?_ <;> clear h
                · intro s157 H159 ρ h hE
                  obtain ⟨e160_1, e160_6, e160_13, e160_14, e160_204⟩ := hE
                  refine GoOps.nil ?_
                  rcases bor s157 with hc161 | hc161
                  · have h := h.1 hc161
                    refine Go.condT (btT e160_204 hc161) ?_
                    refine Go.seq ?_
                    refine Go.region rfl ?_
                    refine GoOps.q (v := .bool false) rfl rfl (by decide) (q_assign rfl) ?_
                    refine GoOps.nil ?_
                    exact Go.ret ⟨.inl rfl, _, _, DOk.nil, (resOk1 Try.results4 rfl), ⟨_, rfl, h⟩⟩
                  · have h := h.2 hc161
                    refine Go.condF (btF e160_204 hc161) ?_
                    refine Go.skip ?_
                    refine Go.region rfl ?_
                    refine GoOps.q (v := Sl.v r17) rfl rfl (by decide) (q_move e160_6) ?_
                    refine GoOps.q (v := Sl.v y141) rfl rfl (by decide) (q_move e160_13) ?_
                    refine GoOps.q (v := .int .i64 s142) rfl rfl (by decide) (q_move e160_14) ?_
                    obtain ⟨a162, ha163, h⟩ := h
                    refine GoOps.q (v := .pointer (some a162)) rfl rfl (by decide) (q_idx slice39 ha163 rfl rfl) ?_
                    refine GoOps.q (v := .pointer (some (a162.add 1))) rfl rfl (by decide) (q_fieldAddr foff42_1 rfl) ?_
                    obtain ⟨x164, hx165, h⟩ := h
                    refine GoOps.q (v := .int .i64 x164) rfl rfl (by decide) (q_load scalar3 rfl hx165) ?_
                    obtain ⟨a166, ha167, h⟩ := h
                    refine GoOps.q (v := .pointer (some a166)) rfl rfl (by decide) (q_idx slice38 ha167 rfl rfl) ?_
                    obtain ⟨q169b, q169o, q169c, q169e, hq169a, hq169b, hq169l, hq169v, h⟩ := h
                    refine op_none rfl rfl (do_store (vs := [.bool false]) size4 (pta rfl hq169a) rfl rfl rfl hq169v hq169b hq169l ?_) 
                    refine GoOps.nil ?_
                    refine Go.inBlock ?_
                    refine Go.region rfl ?_
                    refine GoOps.q (v := .int .i64 s142) rfl rfl (by decide) (q_move e160_14) ?_
                    refine GoOps.q (v := .int .i64 (IntKind.wrap .i64 (s142 + 1))) rfl rfl (by decide) (q_add rfl rfl) ?_
                    refine GoOps.q (v := .int .i64 (IntKind.wrap .i64 (s142 + 1))) rfl rfl (by decide) (q_assign rfl) ?_
                    refine GoOps.nil ?_
                    exact hagain143 _ _ _ h ⟨e160_1, e160_6, e160_13, rfl⟩
                · intro j158 hj158 h
                  rcases bor s152 with hc156 | hc156
                  · have h := h.1 hc156
                    refine no_dst (want_no rfl rfl rfl hc156) rfl (by decide) ?_
                    refine no_dst (want_no rfl rfl rfl hc156) rfl (by decide) ?_
                    refine no_dst (want_no rfl rfl rfl hc156) rfl (by decide) ?_
                    refine no_dst (want_no rfl rfl rfl hc156) rfl (by decide) ?_
                    refine no_dst (want_no rfl rfl rfl hc156) rfl (by decide) ?_
                    refine no_dst (want_no rfl rfl rfl hc156) rfl (by decide) ?_
                    refine no_dst (want_no rfl rfl rfl hc156) rfl (by decide) ?_
                    refine no_dst (want_no rfl rfl rfl hc156) rfl (by decide) ?_
                    refine no_dst (want_no rfl rfl rfl hc156) rfl (by decide) ?_
                    refine GoOps.q (v := .bool true) rfl rfl (by decide) (q_pickT (btT rfl hc156) rfl) ?_
                    exact hj158 true _ _ h (by exact ⟨e155_1, e155_6, e155_13, e155_14, rfl⟩)
                  · have h := h.2 hc156
                    refine GoOps.q (v := Sl.v r17) (want_yes rfl rfl rfl hc156) rfl (by decide) (q_move e155_6) ?_
                    refine GoOps.q (v := Sl.v y141) (want_yes rfl rfl rfl hc156) rfl (by decide) (q_move e155_13) ?_
                    refine GoOps.q (v := .int .i64 s142) (want_yes rfl rfl rfl hc156) rfl (by decide) (q_move e155_14) ?_
                    obtain ⟨a170, ha171, h⟩ := h
                    refine GoOps.q (v := .pointer (some a170)) (want_yes rfl rfl rfl hc156) rfl (by decide) (q_idx slice39 ha171 rfl rfl) ?_
                    refine GoOps.q (v := .pointer (some (a170.add 1))) (want_yes rfl rfl rfl hc156) rfl (by decide) (q_fieldAddr foff42_1 rfl) ?_
                    obtain ⟨x172, hx173, h⟩ := h
                    refine GoOps.q (v := .int .i64 x172) (want_yes rfl rfl rfl hc156) rfl (by decide) (q_load scalar3 rfl hx173) ?_
                    obtain ⟨a174, ha175, h⟩ := h
                    refine GoOps.q (v := .pointer (some a174)) (want_yes rfl rfl rfl hc156) rfl (by decide) (q_idx slice38 ha175 rfl rfl) ?_
                    obtain ⟨x176, hx177, h⟩ := h
                    refine GoOps.q (v := .bool x176) (want_yes rfl rfl rfl hc156) rfl (by decide) (q_load scalar4 rfl hx177) ?_
                    refine GoOps.q (v := .bool (!x176)) (want_yes rfl rfl rfl hc156) rfl (by decide) (q_not rfl) ?_
                    refine GoOps.q (v := .bool (!x176)) rfl rfl (by decide) (q_pickF (btF rfl hc156) rfl) ?_
                    exact hj158 (!x176) _ _ h (by exact ⟨e155_1, e155_6, e155_13, e155_14, rfl⟩)
              · intro j153 hj153 h
                rcases bor (decide (x149 < 1)) with hc151 | hc151
                · have h := h.1 hc151
                  refine no_dst (want_no rfl rfl rfl hc151) rfl (by decide) ?_
                  refine no_dst (want_no rfl rfl rfl hc151) rfl (by decide) ?_
                  refine no_dst (want_no rfl rfl rfl hc151) rfl (by decide) ?_
                  refine no_dst (want_no rfl rfl rfl hc151) rfl (by decide) ?_
                  refine no_dst (want_no rfl rfl rfl hc151) rfl (by decide) ?_
                  refine no_dst (want_no rfl rfl rfl hc151) rfl (by decide) ?_
                  refine no_dst (want_no rfl rfl rfl hc151) rfl (by decide) ?_
                  refine no_dst (want_no rfl rfl rfl hc151) rfl (by decide) ?_
                  refine GoOps.q (v := .bool true) rfl rfl (by decide) (q_pickT (btT rfl hc151) rfl) ?_
                  exact hj153 true _ _ h (by exact ⟨e144_1, e144_6, e144_13, e144_14, rfl⟩)
                · have h := h.2 hc151
                  refine GoOps.q (v := Sl.v y141) (want_yes rfl rfl rfl hc151) rfl (by decide) (q_move e144_13) ?_
                  refine GoOps.q (v := .int .i64 s142) (want_yes rfl rfl rfl hc151) rfl (by decide) (q_move e144_14) ?_
                  obtain ⟨a178, ha179, h⟩ := h
                  refine GoOps.q (v := .pointer (some a178)) (want_yes rfl rfl rfl hc151) rfl (by decide) (q_idx slice39 ha179 rfl rfl) ?_
                  refine GoOps.q (v := .pointer (some (a178.add 1))) (want_yes rfl rfl rfl hc151) rfl (by decide) (q_fieldAddr foff42_1 rfl) ?_
                  obtain ⟨x180, hx181, h⟩ := h
                  refine GoOps.q (v := .int .i64 x180) (want_yes rfl rfl rfl hc151) rfl (by decide) (q_load scalar3 rfl hx181) ?_
                  refine GoOps.q (v := Sl.v p1) (want_yes rfl rfl rfl hc151) rfl (by decide) (q_move e144_1) ?_
                  refine GoOps.q (v := .int .i64 (p1.len : Int)) (want_yes rfl rfl rfl hc151) rfl (by decide) (q_len Try.underlying22 rfl (ls1 rfl)) ?_
                  refine GoOps.q (v := .bool (decide ((p1.len : Int) < x180))) (want_yes rfl rfl rfl hc151) rfl (by decide) (q_gtr rfl rfl) ?_
                  refine GoOps.q (v := .bool (decide ((p1.len : Int) < x180))) rfl rfl (by decide) (q_pickF (btF rfl hc151) rfl) ?_
                  exact hj153 (decide ((p1.len : Int) < x180)) _ _ h (by exact ⟨e144_1, e144_6, e144_13, e144_14, rfl⟩)
            · have h := h.2 hc146
              refine Go.condF (btF rfl hc146) ?_
              refine Go.exit rfl ?_
              refine Go.seq ?_
              refine Go.seq ?_
              refine Go.region rfl ?_
              refine GoOps.q (v := .int .i64 0) rfl rfl (by decide) (q_assign rfl) ?_
              refine GoOps.nil ?_
              refine Go.block ?_
              refine loop_go (fun ρ (s182 : Int) => ρ 6 = Sl.v r17 ∧ ρ 15 = .int .i64 s182) h ⟨e144_6, rfl⟩ ?_
              clear h
              intro ρ s182 H185 again183 hE h hagain183
              obtain ⟨e184_6, e184_15⟩ := hE
              refine Go.seq ?_
              refine Go.seq ?_
              refine Go.region rfl ?_
              refine GoOps.q (v := .int .i64 s182) rfl rfl (by decide) (q_move e184_15) ?_
              refine GoOps.q (v := Sl.v r17) rfl rfl (by decide) (q_move e184_6) ?_
              refine GoOps.q (v := .int .i64 (r17.len : Int)) rfl rfl (by decide) (q_len Try.underlying38 rfl (ls1 rfl)) ?_
              refine GoOps.q (v := .bool (decide (s182 < (r17.len : Int)))) rfl rfl (by decide) (q_lss rfl rfl) ?_
              refine GoOps.nil ?_
              rcases bor (decide (s182 < (r17.len : Int))) with hc186 | hc186
              · have h := h.1 hc186
                refine Go.condT (btT rfl hc186) ?_
                refine Go.skip ?_
                refine Go.seq ?_
                refine Go.block ?_
                refine Go.seq ?_
                refine Go.region rfl ?_
                refine GoOps.q (v := Sl.v r17) rfl rfl (by decide) (q_move e184_6) ?_
                refine GoOps.q (v := .int .i64 s182) rfl rfl (by decide) (q_move e184_15) ?_
                obtain ⟨a187, ha188, h⟩ := h
                refine GoOps.q (v := .pointer (some a187)) rfl rfl (by decide) (q_idx slice38 ha188 rfl rfl) ?_
                obtain ⟨x189, hx190, h⟩ := h
                refine GoOps.q (v := .bool x189) rfl rfl (by decide) (q_load scalar4 rfl hx190) ?_
                refine GoOps.nil ?_
                rcases bor x189 with hc191 | hc191
                · have h := h.1 hc191
                  refine Go.condT (btT rfl hc191) ?_
                  refine Go.seq ?_
                  refine Go.region rfl ?_
                  refine GoOps.q (v := .bool false) rfl rfl (by decide) (q_assign rfl) ?_
                  refine GoOps.nil ?_
                  exact Go.ret ⟨.inl rfl, _, _, DOk.nil, (resOk1 Try.results4 rfl), ⟨_, rfl, h⟩⟩
                · have h := h.2 hc191
                  refine Go.condF (btF rfl hc191) ?_
                  refine Go.skip ?_
                  refine Go.inBlock ?_
                  refine Go.region rfl ?_
                  refine GoOps.q (v := .int .i64 s182) rfl rfl (by decide) (q_move e184_15) ?_
                  refine GoOps.q (v := .int .i64 (IntKind.wrap .i64 (s182 + 1))) rfl rfl (by decide) (q_add rfl rfl) ?_
                  refine GoOps.q (v := .int .i64 (IntKind.wrap .i64 (s182 + 1))) rfl rfl (by decide) (q_assign rfl) ?_
                  refine GoOps.nil ?_
                  exact hagain183 _ _ _ h ⟨e184_6, rfl⟩
              · have h := h.2 hc186
                refine Go.condF (btF rfl hc186) ?_
                refine Go.exit rfl ?_
                refine Go.seq ?_
                refine Go.region rfl ?_
                refine call_dst rfl (by decide) body6 (keelsonlaw16_awake_s _ _ h) rfl ?_
                rintro _ H192 ⟨y193, rfl, h⟩
                refine GoOps.q (v := .bool y193) rfl rfl (by decide) (q_assign rfl) ?_
                refine GoOps.nil ?_
                exact Go.ret ⟨.inl rfl, _, _, DOk.nil, (resOk1 Try.results4 rfl), ⟨_, rfl, h⟩⟩
    · intro j8 hj8 h
      rcases bor s2 with hc6 | hc6
      · have h := h.1 hc6
        refine no_dst (want_no rfl rfl rfl hc6) rfl (by decide) ?_
        refine no_dst (want_no rfl rfl rfl hc6) rfl (by decide) ?_
        refine no_dst (want_no rfl rfl rfl hc6) rfl (by decide) ?_
        refine GoOps.q (v := .bool true) rfl rfl (by decide) (q_pickT (btT rfl hc6) rfl) ?_
        exact hj8 true _ _ h (by exact ⟨e5_0, e5_1, rfl⟩)
      · have h := h.2 hc6
        refine GoOps.q (v := Sl.v p1) (want_yes rfl rfl rfl hc6) rfl (by decide) (q_move e5_1) ?_
        refine GoOps.q (v := .int .i64 (p1.len : Int)) (want_yes rfl rfl rfl hc6) rfl (by decide) (q_len Try.underlying22 rfl (ls1 rfl)) ?_
        refine GoOps.q (v := .bool (decide (80 < (p1.len : Int)))) (want_yes rfl rfl rfl hc6) rfl (by decide) (q_gtr rfl rfl) ?_
        refine GoOps.q (v := .bool (decide (80 < (p1.len : Int)))) rfl rfl (by decide) (q_pickF (btF rfl hc6) rfl) ?_
        exact hj8 (decide (80 < (p1.len : Int))) _ _ h (by exact ⟨e5_0, e5_1, rfl⟩)
  · intro j3 hj3 h
    rcases bor (decide (p0 < 1)) with hc1 | hc1
    · have h := h.1 hc1
      refine no_dst (want_no rfl rfl rfl hc1) rfl (by decide) ?_
      refine no_dst (want_no rfl rfl rfl hc1) rfl (by decide) ?_
      refine GoOps.q (v := .bool true) rfl rfl (by decide) (q_pickT (btT rfl hc1) rfl) ?_
      exact hj3 true _ _ h (by exact ⟨rfl, rfl, rfl⟩)
    · have h := h.2 hc1
      refine GoOps.q (v := .int .i64 p0) (want_yes rfl rfl rfl hc1) rfl (by decide) (q_move rfl) ?_
      refine GoOps.q (v := .bool (decide (64 < p0))) (want_yes rfl rfl rfl hc1) rfl (by decide) (q_gtr rfl rfl) ?_
      refine GoOps.q (v := .bool (decide (64 < p0))) rfl rfl (by decide) (q_pickF (btF rfl hc1) rfl) ?_
      exact hj3 (decide (64 < p0)) _ _ h (by exact ⟨rfl, rfl, rfl⟩)

/-- (*keelson.image.Image).Move -/
def image_Image_Move (p0 : Option Addr) (p1 : Int) (p2 : Int) (p3 : Int) (H : PH) (Q : Bool → PH → Prop) : Prop :=
  image_Image_has p0 p1 1 H fun y2 H1 =>
  mJoin (fun (s4 : Bool) (H6 : PH) =>
  mJoin (fun (s9 : Bool) (H11 : PH) =>
  mJoin (fun (s14 : Bool) (H16 : PH) =>
  mIf s14
  (Q false H16)
  (mNil p0 fun a19 =>
  mLd .pointer H16 (a19.add 0) fun x21 =>
  mNil p0 fun a23 =>
  mLd .pointer H16 (a23.add 1) fun x25 =>
  mLoop (fun (s27 : Int) (H30 : PH) (again28 : Int → PH → Prop) =>
  mIf (decide (s27 < 2))
  (mGetI .pointer 2 ([.pointer x21, .pointer x25]) s27 fun x32 =>
  paged_Paged_int_Get x32 p1 H30 fun y35 y36 H34 =>
  mIf (y35 == p2)
  (paged_Paged_int_Set x32 p1 p3 H34 fun y39 H38 =>
  Q y39 H38)
  (again28 (IntKind.wrap .i64 (s27 + 1)) H34))
  (Q false H30))
  0 H16))
  fun j15 =>
  mIf s9
  (j15 true H11)
  (j15 (decide (4096 ≤ p3)) H11))
  fun j10 =>
  mIf s4
  (j10 true H6)
  (j10 (decide (p3 < 1)) H6))
  fun j5 =>
  mIf (!y2)
  (j5 true H1)
  (j5 (decide (p2 < 1)) H1)

set_option maxRecDepth 20000 in
set_option maxHeartbeats 1000000 in
theorem image_Image_Move_s (p0 : Option Addr) (p1 : Int) (p2 : Int) (p3 : Int) (H : PH) (Q : Bool → PH → Prop) (h : image_Image_Move p0 p1 p2 p3 H Q) :
    CallsH Try.prog 19 #[.pointer p0, .int .i64 p1, .int .i64 p2, .int .i64 p3] H (fun v H' => ∃ (r0 : Bool), v = .bool r0 ∧ Q r0 H') := by
  unfold image_Image_Move at h
  refine callsH_of_go Try.func19 rfl Try.ntmps19 (Nat.le_of_ble_eq_true rfl) ?_
  refine Go.seq ?_
  refine Go.region rfl ?_
  refine GoOps.q (v := .bool false) rfl rfl (by decide) (q_assign rfl) ?_
  refine GoOps.nil ?_
  refine Go.seq ?_
  refine Go.seq ?_
  refine Go.region rfl ?_
  refine GoOps.q (v := .pointer p0) rfl rfl (by decide) (q_move rfl) ?_
  refine GoOps.q (v := .int .i64 p1) rfl rfl (by decide) (q_move rfl) ?_
  refine call_dst rfl (by decide) body34 (image_Image_has_s _ _ _ _ _ h) rfl ?_
  rintro _ H1 ⟨y2, rfl, h⟩
  refine GoOps.q (v := .bool (!y2)) rfl rfl (by decide) (q_not rfl) ?_
  refine GoOps.q (v := .bool (!y2)) rfl rfl (by decide) (q_move rfl) ?_
  refine join_ops 3 (fun ρ (s4 : Bool) => ρ 0 = .pointer p0 ∧ ρ 1 = .int .i64 p1 ∧ ρ 2 = .int .i64 p2 ∧ ρ 3 = .int .i64 p3 ∧ ρ 20 = .bool s4) h ?_ ?_ <;> clear h
  · intro s4 H6 ρ h hE
    obtain ⟨e7_0, e7_1, e7_2, e7_3, e7_20⟩ := hE
    refine GoOps.q (v := .bool s4) rfl rfl (by decide) (q_move e7_20) ?_
    refine join_ops 3 (fun ρ (s9 : Bool) => ρ 0 = .pointer p0 ∧ ρ 1 = .int .i64 p1 ∧ ρ 2 = .int .i64 p2 ∧ ρ 3 = .int .i64 p3 ∧ ρ 24 = .bool s9) h ?_ ?_ <;> clear h
    · intro s9 H11 ρ h hE
      obtain ⟨e12_0, e12_1, e12_2, e12_3, e12_24⟩ := hE
      refine GoOps.q (v := .bool s9) rfl rfl (by decide) (q_move e12_24) ?_
      refine join_ops 3 (fun ρ (s14 : Bool) => ρ 0 = .pointer p0 ∧ ρ 1 = .int .i64 p1 ∧ ρ 2 = .int .i64 p2 ∧ ρ 3 = .int .i64 p3 ∧ ρ 28 = .bool s14) h ?_ ?_ <;> clear h
      · intro s14 H16 ρ h hE
        obtain ⟨e17_0, e17_1, e17_2, e17_3, e17_28⟩ := hE
        refine GoOps.nil ?_
        rcases bor s14 with hc18 | hc18
        · have h := h.1 hc18
          refine Go.condT (btT e17_28 hc18) ?_
          refine Go.seq ?_
          refine Go.region rfl ?_
          refine GoOps.q (v := .bool false) rfl rfl (by decide) (q_assign rfl) ?_
          refine GoOps.nil ?_
          exact Go.ret ⟨.inl rfl, _, _, DOk.nil, (resOk1 Try.results19 rfl), ⟨_, rfl, h⟩⟩
        · have h := h.2 hc18
          refine Go.condF (btF e17_28 hc18) ?_
          refine Go.skip ?_
          refine Go.seq ?_
          refine Go.seq ?_
          refine Go.draw mixed ?_
          refine plan_pure (i := 0) (d := 29) (S2 := 1) (v := .pointer p0) rfl (by decide +kernel) rfl (q_move e17_0) ?_
          obtain ⟨a19, ha20, h⟩ := h
          refine plan_pure (i := 1) (d := 30) (S2 := 3) (v := .pointer (some a19)) rfl (by decide +kernel) rfl (q_nilCheck (ptn rfl ha20)) ?_
          refine plan_pure (i := 2) (d := 31) (S2 := 7) (v := .pointer (some (a19.add 0))) rfl (by decide +kernel) rfl (q_fieldAddr foff51_0 rfl) ?_
          obtain ⟨x21, hx22, h⟩ := h
          refine plan_load (i := 3) (d := 32) (S2 := 15) (v := .pointer x21) rfl (by decide +kernel) rfl (q_load scalar48 rfl hx22) ?_
          refine plan_pure (i := 4) (d := 33) (S2 := 31) (v := .pointer p0) rfl (by decide +kernel) rfl (q_move e17_0) ?_
          obtain ⟨a23, ha24, h⟩ := h
          refine plan_pure (i := 5) (d := 34) (S2 := 63) (v := .pointer (some a23)) rfl (by decide +kernel) rfl (q_nilCheck (ptn rfl ha24)) ?_
          refine plan_pure (i := 6) (d := 35) (S2 := 127) (v := .pointer (some (a23.add 1))) rfl (by decide +kernel) rfl (q_fieldAddr foff51_1 rfl) ?_
          obtain ⟨x25, hx26, h⟩ := h
          refine plan_load (i := 7) (d := 36) (S2 := 255) (v := .pointer x25) rfl (by decide +kernel) rfl (q_load scalar48 rfl hx26) ?_
          refine plan_pure (i := 8) (d := 37) (S2 := 511) (v := .agg ([.pointer x21, .pointer x25] : List Value).toArray) rfl (by decide +kernel) rfl (q_buildA (ps := [(0, .pointer x21), (1, .pointer x25)]) (cs := [.pointer x21, .pointer x25]) array60 zero60 rfl rfl rfl) ?_
          refine plan_pure (i := 9) (d := 38) (S2 := 1023) (v := .int .i64 0) rfl (by decide +kernel) rfl (q_move rfl) ?_
          refine plan_done (by decide +kernel) ?_
          refine Go.block ?_
          refine loop_go (fun ρ (s27 : Int) => ρ 1 = .int .i64 p1 ∧ ρ 2 = .int .i64 p2 ∧ ρ 3 = .int .i64 p3 ∧ ρ 37 = .agg ([.pointer x21, .pointer x25] : List Value).toArray ∧ ρ 38 = .int .i64 s27) h ⟨e17_1, e17_2, e17_3, rfl, rfl⟩ ?_
          clear h
          intro ρ s27 H30 again28 hE h hagain28
          obtain ⟨e29_1, e29_2, e29_3, e29_37, e29_38⟩ := hE
          refine Go.seq ?_
          refine Go.region rfl ?_
          refine GoOps.q (v := .bool (decide (s27 < 2))) rfl rfl (by decide) (q_lss e29_38 rfl) ?_
          refine GoOps.nil ?_
          refine Go.seq ?_
          rcases bor (decide (s27 < 2)) with hc31 | hc31
          · have h := h.1 hc31
            refine Go.condT (btT rfl hc31) ?_
            refine Go.skip ?_
            refine Go.seq ?_
            refine Go.block ?_
            refine Go.seq ?_
            refine Go.region rfl ?_
            obtain ⟨hx330, hx331, x32, hx33, h⟩ := h
            refine GoOps.q (v := .pointer x32) rfl rfl (by decide) (q_indexA array60 scalar48 hx330 hx331 e29_37 e29_38 hx33) ?_
            refine GoOps.q (v := .pointer x32) rfl rfl (by decide) (q_assign rfl) ?_
            refine GoOps.nil ?_
            refine Go.seq ?_
            refine Go.region rfl ?_
            refine GoOps.q (v := .pointer x32) rfl rfl (by decide) (q_move rfl) ?_
            refine GoOps.q (v := .int .i64 p1) rfl rfl (by decide) (q_move e29_1) ?_
            refine call_dst rfl (by decide) body32 (paged_Paged_int_Get_s _ _ _ _ h) rfl ?_
            rintro _ H34 ⟨y35, y36, rfl, h⟩
            refine GoOps.q (v := .tuple #[.int .i64 y35, .bool y36]) rfl rfl (by decide) (q_move rfl) ?_
            refine GoOps.q (v := .int .i64 y35) rfl rfl (by decide) (q_extract rfl rfl) ?_
            refine GoOps.q (v := .bool y36) rfl rfl (by decide) (q_extract rfl rfl) ?_
            refine GoOps.q (v := .int .i64 y35) rfl rfl (by decide) (q_assign rfl) ?_
            refine GoOps.q (v := .bool y36) rfl rfl (by decide) (q_assign rfl) ?_
            refine GoOps.nil ?_
            refine Go.seq ?_
            refine Go.region rfl ?_
            refine GoOps.q (v := .int .i64 y35) rfl rfl (by decide) (q_move rfl) ?_
            refine GoOps.q (v := .int .i64 p2) rfl rfl (by decide) (q_move e29_2) ?_
            refine GoOps.q (v := .bool (y35 == p2)) rfl rfl (by decide) (q_eql rfl rfl) ?_
            refine GoOps.nil ?_
            rcases bor (y35 == p2) with hc37 | hc37
            · have h := h.1 hc37
              refine Go.condT (btT rfl hc37) ?_
              refine Go.seq ?_
              refine Go.region rfl ?_
              refine GoOps.q (v := .pointer x32) rfl rfl (by decide) (q_move rfl) ?_
              refine GoOps.q (v := .int .i64 p1) rfl rfl (by decide) (q_move e29_1) ?_
              refine GoOps.q (v := .int .i64 p3) rfl rfl (by decide) (q_move e29_3) ?_
              refine call_dst rfl (by decide) body31 (paged_Paged_int_Set_s _ _ _ _ _ h) rfl ?_
              rintro _ H38 ⟨y39, rfl, h⟩
              refine GoOps.q (v := .bool y39) rfl rfl (by decide) (q_assign rfl) ?_
              refine GoOps.nil ?_
              exact Go.ret ⟨.inl rfl, _, _, DOk.nil, (resOk1 Try.results19 rfl), ⟨_, rfl, h⟩⟩
            · have h := h.2 hc37
              refine Go.condF (btF rfl hc37) ?_
              refine Go.skip ?_
              refine Go.inBlock ?_
              refine Go.region rfl ?_
              refine GoOps.q (v := .int .i64 (IntKind.wrap .i64 (s27 + 1))) rfl rfl (by decide) (q_add e29_38 rfl) ?_
              refine GoOps.q (v := .int .i64 (IntKind.wrap .i64 (s27 + 1))) rfl rfl (by decide) (q_move rfl) ?_
              refine GoOps.nil ?_
              exact hagain28 _ _ _ h ⟨e29_1, e29_2, e29_3, e29_37, rfl⟩
          · have h := h.2 hc31
            refine Go.condF (btF rfl hc31) ?_
            refine Go.exit rfl ?_
            refine Go.seq ?_
            refine Go.region rfl ?_
            refine GoOps.q (v := .bool false) rfl rfl (by decide) (q_assign rfl) ?_
            refine GoOps.nil ?_
            exact Go.ret ⟨.inl rfl, _, _, DOk.nil, (resOk1 Try.results19 rfl), ⟨_, rfl, h⟩⟩
      · intro j15 hj15 h
        rcases bor s9 with hc13 | hc13
        · have h := h.1 hc13
          refine no_dst (want_no rfl rfl rfl hc13) rfl (by decide) ?_
          refine no_dst (want_no rfl rfl rfl hc13) rfl (by decide) ?_
          refine GoOps.q (v := .bool true) rfl rfl (by decide) (q_pickT (btT rfl hc13) rfl) ?_
          exact hj15 true _ _ h (by exact ⟨e12_0, e12_1, e12_2, e12_3, rfl⟩)
        · have h := h.2 hc13
          refine GoOps.q (v := .int .i64 p3) (want_yes rfl rfl rfl hc13) rfl (by decide) (q_move e12_3) ?_
          refine GoOps.q (v := .bool (decide (4096 ≤ p3))) (want_yes rfl rfl rfl hc13) rfl (by decide) (q_geq rfl rfl) ?_
          refine GoOps.q (v := .bool (decide (4096 ≤ p3))) rfl rfl (by decide) (q_pickF (btF rfl hc13) rfl) ?_
          exact hj15 (decide (4096 ≤ p3)) _ _ h (by exact ⟨e12_0, e12_1, e12_2, e12_3, rfl⟩)
    · intro j10 hj10 h
      rcases bor s4 with hc8 | hc8
      · have h := h.1 hc8
        refine no_dst (want_no rfl rfl rfl hc8) rfl (by decide) ?_
        refine no_dst (want_no rfl rfl rfl hc8) rfl (by decide) ?_
        refine GoOps.q (v := .bool true) rfl rfl (by decide) (q_pickT (btT rfl hc8) rfl) ?_
        exact hj10 true _ _ h (by exact ⟨e7_0, e7_1, e7_2, e7_3, rfl⟩)
      · have h := h.2 hc8
        refine GoOps.q (v := .int .i64 p3) (want_yes rfl rfl rfl hc8) rfl (by decide) (q_move e7_3) ?_
        refine GoOps.q (v := .bool (decide (p3 < 1))) (want_yes rfl rfl rfl hc8) rfl (by decide) (q_lss rfl rfl) ?_
        refine GoOps.q (v := .bool (decide (p3 < 1))) rfl rfl (by decide) (q_pickF (btF rfl hc8) rfl) ?_
        exact hj10 (decide (p3 < 1)) _ _ h (by exact ⟨e7_0, e7_1, e7_2, e7_3, rfl⟩)
  · intro j5 hj5 h
    rcases bor (!y2) with hc3 | hc3
    · have h := h.1 hc3
      refine no_dst (want_no rfl rfl rfl hc3) rfl (by decide) ?_
      refine no_dst (want_no rfl rfl rfl hc3) rfl (by decide) ?_
      refine GoOps.q (v := .bool true) rfl rfl (by decide) (q_pickT (btT rfl hc3) rfl) ?_
      exact hj5 true _ _ h (by exact ⟨rfl, rfl, rfl, rfl, rfl⟩)
    · have h := h.2 hc3
      refine GoOps.q (v := .int .i64 p2) (want_yes rfl rfl rfl hc3) rfl (by decide) (q_move rfl) ?_
      refine GoOps.q (v := .bool (decide (p2 < 1))) (want_yes rfl rfl rfl hc3) rfl (by decide) (q_lss rfl rfl) ?_
      refine GoOps.q (v := .bool (decide (p2 < 1))) rfl rfl (by decide) (q_pickF (btF rfl hc3) rfl) ?_
      exact hj5 (decide (p2 < 1)) _ _ h (by exact ⟨rfl, rfl, rfl, rfl, rfl⟩)


end Go.Proofs.Ytmbfefbgjdpelaa

import Derived.Test.YtfjpapddfdhhlaaFnp1
set_option linter.unusedVariables false
set_option linter.unusedSimpArgs false
namespace Go.Proofs.Ytfjpapddfdhhlaa
open Go Go.Kx Go.Proofs
/-- keelson.keelsonlaw24.IdealStands -/
def keelsonlaw24_IdealStands (p0 : Int) (p1 : Sl) (H : PH) (Q : Bool → PH → Prop) : Prop :=
  mJoin (fun (s2 : Bool) (H4 : PH) =>
  mJoin (fun (s7 : Bool) (H9 : PH) =>
  mIf s7
  (keelsonlaw24_awake H9 fun y13 H12 =>
  Q y13 H12)
  (ideal_New p0 H9 fun y15 H14 =>
  mIf (Option.isNone y15)
  (Q false H14)
  (mLoop (fun (s17 : Sl × Sl × Int) (H20 : PH) (again18 : (Sl × Sl × Int) → PH → Prop) =>
  mIf (decide (s17.2.2 < p0))
  (mJoin (fun (s22 : Sl × Sl) (H24 : PH) =>
  again18 (s22.1, s22.2, IntKind.wrap .i64 (s17.2.2 + 1)) H24)
  fun j23 =>
  mBoth (MkOk 1 64 64) <|
  mBoth (MkOk 1 64 64) <|
  mNewSI H20 (row (zeros (64 : Int).toNat [.int .u8 0]) 5) 64 64 fun r28 H29 =>
  mNewS H29 (row [Sl.v r28] 27) 1 fun r31 H32 =>
  mApp H32 27 1 24 [.slice none 0 0] s17.1 r31 fun r34 H35 =>
  mNewSI H35 (row (zeros (64 : Int).toNat [.int .u8 0]) 5) 64 64 fun r36 H37 =>
  mNewS H37 (row [Sl.v r36] 27) 1 fun r39 H40 =>
  mApp H40 27 1 24 [.slice none 0 0] s17.2.1 r39 fun r42 H43 =>
  j23 (r34, r42) H43)
  (mLoop (fun (s176 : Sl × Sl × Int) (H179 : PH) (again177 : (Sl × Sl × Int) → PH → Prop) =>
  mIf (decide (s176.2.2 < (p1.len : Int)))
  (mJoin (fun (s181 : Addr) (H183 : PH) =>
  mLdR (fun (x : (Int × Int × Int × Int × Sl)) => [.int .i64 x.1, .int .i64 x.2.1, .int .i64 x.2.2.1, .int .i64 x.2.2.2.1, Sl.v x.2.2.2.2]) H183 s181 5 fun x185 =>
  ideal_Ideal_Do y15 (x185.1, x185.2.1, x185.2.2.1, x185.2.2.2.1, x185.2.2.2.2) H183 fun y188 H187 =>
  mIf (!y188)
  (Q false H187)
  (mLd (.int .i64) H187 (s181.add 0) fun x190 =>
  mJoin (fun (s192 : Sl) (H194 : PH) =>
  mLoop (fun (s196 : Sl × Int) (H199 : PH) (again197 : (Sl × Int) → PH → Prop) =>
  mIf (decide (s196.2 < p0))
  (ideal_Ideal_Look y15 s196.2 H199 fun y202 H201 =>
  mIdx s192 1 s196.2 fun a203 =>
  mLd Sl.v H201 a203 fun x205 =>
  ideal_Ideal_Read y15 s196.2 H201 fun y208 H207 =>
  mSame H207 a203 (Sl.v x205) <|
  keelsonalike_Bytes y208 x205 H207 fun y211 H210 =>
  mJoin (fun (s213 : Bool) (H215 : PH) =>
  mIf s213
  (Q false H215)
  (mLd (.int .i64) H215 (s181.add 0) fun x218 =>
  mJoin (fun (s221 : Bool) (H223 : PH) =>
  mJoin (fun (s226 : Bool) (H228 : PH) =>
  mIf s226
  (Q false H228)
  (mNewS H228 (row [Sl.v y202] 27) 1 fun r231 H232 =>
  mApp H232 27 1 24 [.slice none 0 0] s196.1 r231 fun r234 H235 =>
  again197 (r234, IntKind.wrap .i64 (s196.2 + 1)) H235))
  fun j227 =>
  mIf s221
  (mLd Sl.v H223 (s181.add 4) fun x236 =>
  keelsonalike_Bytes y202 x236 H223 fun y239 H238 =>
  j227 (!y239) H238)
  (j227 false H223))
  fun j222 =>
  mIf (x218 == 1)
  (mLd (.int .i64) H215 (s181.add 1) fun x240 =>
  j222 (x240 == s196.2) H215)
  (j222 false H215)))
  fun j214 =>
  mIf (!y211)
  (j214 true H210)
  (j214 ((y202.len : Int) != 64) H210))
  (mLd (.int .i64) H199 (s181.add 0) fun x242 =>
  mJoin (fun (s245 : Bool) (H247 : PH) =>
  mJoin (fun (s250 : Bool) (H252 : PH) =>
  mIf s250
  (Q false H252)
  (again177 (s192, s196.1, IntKind.wrap .i64 (s176.2.2 + 1)) H252))
  fun j251 =>
  mIf s245
  (j251 true H247)
  (ideal_Ideal_Seq y15 H247 fun y256 H255 =>
  j251 (decide (y256 < (IntKind.wrap .i64 (s176.2.2 + 1)))) H255))
  fun j246 =>
  mIf (x242 == 3)
  (ideal_Ideal_Done y15 H199 fun y258 H257 =>
  ideal_Ideal_Seq y15 H257 fun y260 H259 =>
  j246 (y258 != y260) H259)
  (j246 false H199)))
  (Sl.nil, 0) H194)
  fun j193 =>
  mIf (x190 == 3)
  (j193 s176.2.1 H187)
  (j193 s176.1 H187)))
  fun j182 =>
  mIdx p1 1 s176.2.2 fun a262 =>
  mLd (.int .i64) H179 a262 fun x264 =>
  ideal_Ideal_Epoch y15 H179 fun y267 H266 =>
  mSame H266 a262 (.int .i64 x264) <|
  keelsonlaw24_op x264 p0 s176.2.2 y267 H266 fun y270 H269 =>
  mNew H269 (row [.int .i64 0, .int .i64 0, .int .i64 0, .int .i64 0, .slice none 0 0] 29) fun a271 H272 =>
  mSt H272 a271 ([.int .i64 y270.1, .int .i64 y270.2.1, .int .i64 y270.2.2.1, .int .i64 y270.2.2.2.1, Sl.v y270.2.2.2.2]) fun H274 =>
  j182 a271 H274)
  (ideal_Ideal_Forget y15 H179 fun H301 =>
  mLoop (fun (s302 : Int) (H305 : PH) (again303 : Int → PH → Prop) =>
  mIf (decide (s302 < p0))
  (mIdx s176.1 1 s302 fun a307 =>
  mLd Sl.v H305 a307 fun x309 =>
  ideal_Ideal_Look y15 s302 H305 fun y312 H311 =>
  mSame H311 a307 (Sl.v x309) <|
  keelsonalike_Bytes y312 x309 H311 fun y315 H314 =>
  mIf (!y315)
  (Q false H314)
  (again303 (IntKind.wrap .i64 (s302 + 1)) H314))
  (ideal_Ideal_Seq y15 H305 fun y318 H317 =>
  ideal_Ideal_Done y15 H317 fun y320 H319 =>
  mJoin (fun (s322 : Bool) (H324 : PH) =>
  Q s322 H324)
  fun j323 =>
  mIf (y318 == y320)
  (keelsonlaw24_awake H319 fun y327 H326 =>
  j323 y327 H326)
  (j323 false H319)))
  0 H301))
  (s17.1, s17.2.1, 0) H20))
  (Sl.nil, Sl.nil, 0) H14)))
  fun j8 =>
  mIf s2
  (j8 true H4)
  (j8 (decide (60 < (p1.len : Int))) H4))
  fun j3 =>
  mIf (decide (p0 < 1))
  (j3 true H)
  (j3 (decide (64 < p0)) H)

set_option maxRecDepth 20000 in
set_option maxHeartbeats 1000000 in
theorem keelsonlaw24_IdealStands_s (p0 : Int) (p1 : Sl) (H : PH) (Q : Bool → PH → Prop) (h : keelsonlaw24_IdealStands p0 p1 H Q) :
    CallsH Try.prog 3 #[.int .i64 p0, Sl.v p1] H (fun v H' => ∃ (r0 : Bool), v = .bool r0 ∧ Q r0 H') := by
  unfold keelsonlaw24_IdealStands at h
  refine callsH_of_go Try.func3 rfl Try.ntmps3 (Nat.le_of_ble_eq_true rfl) ?_
  refine Go.seq ?_
  refine Go.region rfl ?_
  refine GoOps.q (v := .bool false) rfl rfl (by decide) (q_assign rfl) ?_
  refine GoOps.nil ?_
  refine Go.seq ?_
  refine Go.seq ?_
  refine Go.region rfl ?_
  refine GoOps.q (v := .int .i64 p0) rfl rfl (by decide) (q_move rfl) ?_
  refine GoOps.q (v := .bool (decide (p0 < 1))) rfl rfl (by decide) (q_lss rfl rfl) ?_
  refine GoOps.q (v := .bool (decide (p0 < 1))) rfl rfl (by decide) (q_move rfl) ?_
  refine join_ops 3 (fun ρ (s2 : Bool) => ρ 0 = .int .i64 p0 ∧ ρ 1 = Sl.v p1 ∧ ρ 19 = .bool s2) h ?_ ?_ <;> clear h
  · intro s2 H4 ρ h hE
    obtain ⟨e5_0, e5_1, e5_19⟩ := hE
    refine GoOps.q (v := .bool s2) rfl rfl (by decide) (q_move e5_19) ?_
    refine join_ops 4 (fun ρ (s7 : Bool) => ρ 0 = .int .i64 p0 ∧ ρ 1 = Sl.v p1 ∧ ρ 24 = .bool s7) h ?_ ?_ <;> clear h
    · intro s7 H9 ρ h hE
      obtain ⟨e10_0, e10_1, e10_24⟩ := hE
      refine GoOps.nil ?_
      rcases bor s7 with hc11 | hc11
      · have h := h.1 hc11
        refine Go.condT (btT e10_24 hc11) ?_
        refine Go.seq ?_
        refine Go.region rfl ?_
        refine call_dst rfl (by decide) body6 (keelsonlaw24_awake_s _ _ h) rfl ?_
        rintro _ H12 ⟨y13, rfl, h⟩
        refine GoOps.q (v := .bool y13) rfl rfl (by decide) (q_assign rfl) ?_
        refine GoOps.nil ?_
        exact Go.ret ⟨.inl rfl, _, _, DOk.nil, (resOk1 Try.results3 rfl), ⟨_, rfl, h⟩⟩
      · have h := h.2 hc11
        refine Go.condF (btF e10_24 hc11) ?_
        refine Go.skip ?_
        refine Go.seq ?_
        refine Go.region rfl ?_
        refine GoOps.q (v := .int .i64 p0) rfl rfl (by decide) (q_move e10_0) ?_
        refine call_dst rfl (by decide) body7 (ideal_New_s _ _ _ h) rfl ?_
        rintro _ H14 ⟨y15, rfl, h⟩
        refine GoOps.q (v := .pointer y15) rfl rfl (by decide) (q_assign rfl) ?_
        refine GoOps.nil ?_
        refine Go.seq ?_
        refine Go.seq ?_
        refine Go.region rfl ?_
        refine GoOps.q (v := .pointer y15) rfl rfl (by decide) (q_move rfl) ?_
        refine GoOps.q (v := .bool (Option.isNone y15)) rfl rfl (by decide) (q_eqlPn Try.underlying24 rfl rfl) ?_
        refine GoOps.nil ?_
        rcases bor (Option.isNone y15) with hc16 | hc16
        · have h := h.1 hc16
          refine Go.condT (btT rfl hc16) ?_
          refine Go.seq ?_
          refine Go.region rfl ?_
          refine GoOps.q (v := .bool false) rfl rfl (by decide) (q_assign rfl) ?_
          refine GoOps.nil ?_
          exact Go.ret ⟨.inl rfl, _, _, DOk.nil, (resOk1 Try.results3 rfl), ⟨_, rfl, h⟩⟩
        · have h := h.2 hc16
          refine Go.condF (btF rfl hc16) ?_
          refine Go.skip ?_
          refine Go.seq ?_
          refine Go.region rfl ?_
          refine GoOps.q (v := Sl.v Sl.nil) rfl rfl (by decide) (q_assign rfl) ?_
          refine GoOps.q (v := Sl.v Sl.nil) rfl rfl (by decide) (q_assign rfl) ?_
          refine GoOps.nil ?_
          refine Go.seq ?_
          refine Go.seq ?_
          refine Go.region rfl ?_
          refine GoOps.q (v := .int .i64 0) rfl rfl (by decide) (q_assign rfl) ?_
          refine GoOps.nil ?_
          refine Go.block ?_
          refine loop_go (fun ρ (s17 : Sl × Sl × Int) => ρ 0 = .int .i64 p0 ∧ ρ 1 = Sl.v p1 ∧ ρ 5 = .pointer y15 ∧ ρ 6 = Sl.v s17.1 ∧ ρ 7 = Sl.v s17.2.1 ∧ ρ 8 = .int .i64 s17.2.2) h ⟨e10_0, e10_1, rfl, rfl, rfl, rfl⟩ ?_
          clear h
          intro ρ s17 H20 again18 hE h hagain18
          obtain ⟨e19_0, e19_1, e19_5, e19_6, e19_7, e19_8⟩ := hE
          refine Go.seq ?_
          refine Go.seq ?_
          refine Go.region rfl ?_
          refine GoOps.q (v := .int .i64 s17.2.2) rfl rfl (by decide) (q_move e19_8) ?_
          refine GoOps.q (v := .int .i64 p0) rfl rfl (by decide) (q_move e19_0) ?_
          refine GoOps.q (v := .bool (decide (s17.2.2 < p0))) rfl rfl (by decide) (q_lss rfl rfl) ?_
          refine GoOps.nil ?_
          rcases bor (decide (s17.2.2 < p0)) with hc21 | hc21
          · have h := h.1 hc21
            refine Go.condT (btT rfl hc21) ?_
            refine Go.skip ?_
            refine Go.seq ?_
            refine Go.block ?_
            refine join_go 1 (fun ρ (s22 : Sl × Sl) => ρ 0 = .int .i64 p0 ∧ ρ 1 = Sl.v p1 ∧ ρ 5 = .pointer y15 ∧ ρ 6 = Sl.v s22.1 ∧ ρ 7 = Sl.v s22.2 ∧ ρ 8 = .int .i64 s17.2.2) h ?_ ?_ <;> clear h
            · intro s22 H24 ρ h hE
              obtain ⟨e25_0, e25_1, e25_5, e25_6, e25_7, e25_8⟩ := hE
              refine Go.inBlock ?_
              refine Go.region rfl ?_
              refine GoOps.q (v := .int .i64 s17.2.2) rfl rfl (by decide) (q_move e25_8) ?_
              refine GoOps.q (v := .int .i64 (IntKind.wrap .i64 (s17.2.2 + 1))) rfl rfl (by decide) (q_add rfl rfl) ?_
              refine GoOps.q (v := .int .i64 (IntKind.wrap .i64 (s17.2.2 + 1))) rfl rfl (by decide) (q_assign rfl) ?_
              refine GoOps.nil ?_
              exact hagain18 _ _ _ h ⟨e25_0, e25_1, e25_5, e25_6, e25_7, rfl⟩
            · intro j23 hj23 h
              refine Go.draw mixed ?_
              refine plan_pure (i := 0) (d := 35) (S2 := 1) (v := Sl.v s17.1) rfl (by decide +kernel) rfl (q_move e19_6) ?_
              refine plan_pure (i := 4) (d := 39) (S2 := 17) (v := Sl.v s17.2.1) rfl (by decide +kernel) rfl (q_move e19_7) ?_
              obtain ⟨hm26, h⟩ := h
              obtain ⟨hm27, h⟩ := h
              refine plan_step (R := [1, 5]) (by decide +kernel) ⟨?_, ?_, trivial⟩
              · refine pstep_yes (S2 := 19) rfl (by decide +kernel) (by decide) rfl ?_
                refine do_mk (zs := [.int .u8 0]) slice27 bytes5 (by decide) zero5 rfl rfl (by decide) rfl rfl hm26 fun r28 H29 hb30 => ?_
                have h := h r28 H29 hb30
                refine ⟨_, rfl, ?_⟩
                refine plan_step (R := [2, 5]) (by decide +kernel) ⟨?_, ?_, trivial⟩
                · refine pstep_yes (S2 := 23) rfl (by decide +kernel) (by decide) rfl ?_
                  refine do_bs (ps := [(0, Sl.v r28)]) (zs := [.slice none 0 0]) (cs := [Sl.v r28]) slice26 zero27 rfl rfl (by decide) (by decide) rfl rfl fun r31 H32 hb33 => ?_
                  have h := h r31 H32 hb33
                  refine ⟨_, rfl, ?_⟩
                  refine plan_step (R := [3, 5]) (by decide +kernel) ⟨?_, ?_, trivial⟩
                  · refine pstep_yes (S2 := 31) rfl (by decide +kernel) (by decide) rfl ?_
                    refine do_append (zs := [.slice none 0 0]) slice26 bytes27 (by decide) zero27 rfl rfl (by decide) rfl rfl Try.underlying26 rfl h fun r34 H35 h => ?_
                    refine ⟨_, rfl, ?_⟩
                    refine plan_one (j := 5) (S2 := 63) (by decide +kernel) rfl (by decide) rfl ?_
                    refine do_mk (zs := [.int .u8 0]) slice27 bytes5 (by decide) zero5 rfl rfl (by decide) rfl rfl hm27 fun r36 H37 hb38 => ?_
                    have h := h r36 H37 hb38
                    refine ⟨_, rfl, ?_⟩
                    refine plan_one (j := 6) (S2 := 127) (by decide +kernel) rfl (by decide) rfl ?_
                    refine do_bs (ps := [(0, Sl.v r36)]) (zs := [.slice none 0 0]) (cs := [Sl.v r36]) slice26 zero27 rfl rfl (by decide) (by decide) rfl rfl fun r39 H40 hb41 => ?_
                    have h := h r39 H40 hb41
                    refine ⟨_, rfl, ?_⟩
                    refine plan_one (j := 7) (S2 := 255) (by decide +kernel) rfl (by decide) rfl ?_
                    refine do_append (zs := [.slice none 0 0]) slice26 bytes27 (by decide) zero27 rfl rfl (by decide) rfl rfl Try.underlying26 rfl h fun r42 H43 h => ?_
                    refine ⟨_, rfl, ?_⟩
                    refine plan_one (j := 8) (S2 := 511) (by decide +kernel) rfl (by decide) rfl ?_
                    refine OpQ.do (v := Sl.v r34) (q_assign rfl) ⟨_, rfl, ?_⟩
                    refine plan_one (j := 9) (S2 := 1023) (by decide +kernel) rfl (by decide) rfl ?_
                    refine OpQ.do (v := Sl.v r42) (q_assign rfl) ⟨_, rfl, ?_⟩
                    refine plan_done (by decide +kernel) ?_
                    exact hj23 _ _ _ h ⟨e19_0, e19_1, e19_5, rfl, rfl, e19_8⟩
                  · refine pstep_yes (S2 := 55) rfl (by decide +kernel) (by decide) rfl ?_
                    refine do_mkT (zs := [.int .u8 0]) slice27 bytes5 (by decide) zero5 rfl rfl (by decide) rfl rfl hm27 fun b45 r44 hHb45 hTb45 hrb45 => ?_
                    refine ⟨_, rfl, ?_⟩
                    refine plan_step (R := [3, 6]) (by decide +kernel) ⟨?_, ?_, trivial⟩
                    · refine pstep_yes (S2 := 63) rfl (by decide +kernel) (by decide) rfl ?_
                      refine do_append (zs := [.slice none 0 0]) slice26 bytes27 (by decide) zero27 rfl rfl (by decide) rfl rfl Try.underlying26 rfl h fun r46 H47 h => ?_
                      refine ⟨_, rfl, ?_⟩
                      refine plan_commit hTb45 fun hh49 => ?_
                      have h := h r44 _ ⟨b45, hh49, hrb45, rfl⟩
                      refine plan_one (j := 6) (S2 := 127) (by decide +kernel) rfl (by decide) rfl ?_
                      refine do_bs (ps := [(0, Sl.v r44)]) (zs := [.slice none 0 0]) (cs := [Sl.v r44]) slice26 zero27 rfl rfl (by decide) (by decide) rfl rfl fun r50 H51 hb52 => ?_
                      have h := h r50 H51 hb52
                      refine ⟨_, rfl, ?_⟩
                      refine plan_one (j := 7) (S2 := 255) (by decide +kernel) rfl (by decide) rfl ?_
                      refine do_append (zs := [.slice none 0 0]) slice26 bytes27 (by decide) zero27 rfl rfl (by decide) rfl rfl Try.underlying26 rfl h fun r53 H54 h => ?_
                      refine ⟨_, rfl, ?_⟩
                      refine plan_one (j := 8) (S2 := 511) (by decide +kernel) rfl (by decide) rfl ?_
                      refine OpQ.do (v := Sl.v r46) (q_assign rfl) ⟨_, rfl, ?_⟩
                      refine plan_one (j := 9) (S2 := 1023) (by decide +kernel) rfl (by decide) rfl ?_
                      refine OpQ.do (v := Sl.v r53) (q_assign rfl) ⟨_, rfl, ?_⟩
                      refine plan_done (by decide +kernel) ?_
                      exact hj23 _ _ _ h ⟨e19_0, e19_1, e19_5, rfl, rfl, e19_8⟩
                    · refine pstep_yes (S2 := 119) rfl (by decide +kernel) (by decide) rfl ?_
                      refine do_bsT (ps := [(0, Sl.v r44)]) (zs := [.slice none 0 0]) (cs := [Sl.v r44]) slice26 zero27 rfl rfl (by decide) (by decide) rfl rfl fun b59 r58 hHb59 hTb59 hrb59 => ?_
                      refine ⟨_, rfl, ?_⟩
                      refine plan_one (j := 3) (S2 := 127) (by decide +kernel) rfl (by decide) rfl ?_
                      refine do_append (zs := [.slice none 0 0]) slice26 bytes27 (by decide) zero27 rfl rfl (by decide) rfl rfl Try.underlying26 rfl h fun r60 H61 h => ?_
                      refine ⟨_, rfl, ?_⟩
                      refine plan_commit2 (Ne.symm (upd_none hTb59).1) hTb45 fun hh63 => ?_
                      have hTb59 := (upd_none hTb59).2
                      have h := h r44 _ ⟨b45, hh63, hrb45, rfl⟩
                      refine plan_commit hTb59 fun hh65 => ?_
                      have h := h r58 _ ⟨b59, hh65, hrb59, rfl⟩
                      refine plan_one (j := 7) (S2 := 255) (by decide +kernel) rfl (by decide) rfl ?_
                      refine do_append (zs := [.slice none 0 0]) slice26 bytes27 (by decide) zero27 rfl rfl (by decide) rfl rfl Try.underlying26 rfl h fun r66 H67 h => ?_
                      refine ⟨_, rfl, ?_⟩
                      refine plan_one (j := 8) (S2 := 511) (by decide +kernel) rfl (by decide) rfl ?_
                      refine OpQ.do (v := Sl.v r60) (q_assign rfl) ⟨_, rfl, ?_⟩
                      refine plan_one (j := 9) (S2 := 1023) (by decide +kernel) rfl (by decide) rfl ?_
                      refine OpQ.do (v := Sl.v r66) (q_assign rfl) ⟨_, rfl, ?_⟩
                      refine plan_done (by decide +kernel) ?_
                      exact hj23 _ _ _ h ⟨e19_0, e19_1, e19_5, rfl, rfl, e19_8⟩
                · refine pstep_yes (S2 := 51) rfl (by decide +kernel) (by decide) rfl ?_
                  refine do_mkT (zs := [.int .u8 0]) slice27 bytes5 (by decide) zero5 rfl rfl (by decide) rfl rfl hm27 fun b69 r68 hHb69 hTb69 hrb69 => ?_
                  refine ⟨_, rfl, ?_⟩
                  refine plan_step (R := [2, 6]) (by decide +kernel) ⟨?_, ?_, trivial⟩
                  · refine pstep_yes (S2 := 55) rfl (by decide +kernel) (by decide) rfl ?_
                    refine do_bs (ps := [(0, Sl.v r28)]) (zs := [.slice none 0 0]) (cs := [Sl.v r28]) slice26 zero27 rfl rfl (by decide) (by decide) rfl rfl fun r70 H71 hb72 => ?_
                    have h := h r70 H71 hb72
                    refine ⟨_, rfl, ?_⟩
                    refine plan_step (R := [3, 6]) (by decide +kernel) ⟨?_, ?_, trivial⟩
                    · refine pstep_yes (S2 := 63) rfl (by decide +kernel) (by decide) rfl ?_
                      refine do_append (zs := [.slice none 0 0]) slice26 bytes27 (by decide) zero27 rfl rfl (by decide) rfl rfl Try.underlying26 rfl h fun r73 H74 h => ?_
                      refine ⟨_, rfl, ?_⟩
                      refine plan_commit hTb69 fun hh76 => ?_
                      have h := h r68 _ ⟨b69, hh76, hrb69, rfl⟩
                      refine plan_one (j := 6) (S2 := 127) (by decide +kernel) rfl (by decide) rfl ?_
                      refine do_bs (ps := [(0, Sl.v r68)]) (zs := [.slice none 0 0]) (cs := [Sl.v r68]) slice26 zero27 rfl rfl (by decide) (by decide) rfl rfl fun r77 H78 hb79 => ?_
                      have h := h r77 H78 hb79
                      refine ⟨_, rfl, ?_⟩
                      refine plan_one (j := 7) (S2 := 255) (by decide +kernel) rfl (by decide) rfl ?_
                      refine do_append (zs := [.slice none 0 0]) slice26 bytes27 (by decide) zero27 rfl rfl (by decide) rfl rfl Try.underlying26 rfl h fun r80 H81 h => ?_
                      refine ⟨_, rfl, ?_⟩
                      refine plan_one (j := 8) (S2 := 511) (by decide +kernel) rfl (by decide) rfl ?_
                      refine OpQ.do (v := Sl.v r73) (q_assign rfl) ⟨_, rfl, ?_⟩
                      refine plan_one (j := 9) (S2 := 1023) (by decide +kernel) rfl (by decide) rfl ?_
                      refine OpQ.do (v := Sl.v r80) (q_assign rfl) ⟨_, rfl, ?_⟩
                      refine plan_done (by decide +kernel) ?_
                      exact hj23 _ _ _ h ⟨e19_0, e19_1, e19_5, rfl, rfl, e19_8⟩
                    · refine pstep_yes (S2 := 119) rfl (by decide +kernel) (by decide) rfl ?_
                      refine do_bsT (ps := [(0, Sl.v r68)]) (zs := [.slice none 0 0]) (cs := [Sl.v r68]) slice26 zero27 rfl rfl (by decide) (by decide) rfl rfl fun b86 r85 hHb86 hTb86 hrb86 => ?_
                      refine ⟨_, rfl, ?_⟩
                      refine plan_one (j := 3) (S2 := 127) (by decide +kernel) rfl (by decide) rfl ?_
                      refine do_append (zs := [.slice none 0 0]) slice26 bytes27 (by decide) zero27 rfl rfl (by decide) rfl rfl Try.underlying26 rfl h fun r87 H88 h => ?_
                      refine ⟨_, rfl, ?_⟩
                      refine plan_commit2 (Ne.symm (upd_none hTb86).1) hTb69 fun hh90 => ?_
                      have hTb86 := (upd_none hTb86).2
                      have h := h r68 _ ⟨b69, hh90, hrb69, rfl⟩
                      refine plan_commit hTb86 fun hh92 => ?_
                      have h := h r85 _ ⟨b86, hh92, hrb86, rfl⟩
                      refine plan_one (j := 7) (S2 := 255) (by decide +kernel) rfl (by decide) rfl ?_
                      refine do_append (zs := [.slice none 0 0]) slice26 bytes27 (by decide) zero27 rfl rfl (by decide) rfl rfl Try.underlying26 rfl h fun r93 H94 h => ?_
                      refine ⟨_, rfl, ?_⟩
                      refine plan_one (j := 8) (S2 := 511) (by decide +kernel) rfl (by decide) rfl ?_
                      refine OpQ.do (v := Sl.v r87) (q_assign rfl) ⟨_, rfl, ?_⟩
                      refine plan_one (j := 9) (S2 := 1023) (by decide +kernel) rfl (by decide) rfl ?_
                      refine OpQ.do (v := Sl.v r93) (q_assign rfl) ⟨_, rfl, ?_⟩
                      refine plan_done (by decide +kernel) ?_
                      exact hj23 _ _ _ h ⟨e19_0, e19_1, e19_5, rfl, rfl, e19_8⟩
                  · refine pstep_yes (S2 := 115) rfl (by decide +kernel) (by decide) rfl ?_
                    refine do_bsT (ps := [(0, Sl.v r68)]) (zs := [.slice none 0 0]) (cs := [Sl.v r68]) slice26 zero27 rfl rfl (by decide) (by decide) rfl rfl fun b99 r98 hHb99 hTb99 hrb99 => ?_
                    refine ⟨_, rfl, ?_⟩
                    refine plan_one (j := 2) (S2 := 119) (by decide +kernel) rfl (by decide) rfl ?_
                    refine do_bs (ps := [(0, Sl.v r28)]) (zs := [.slice none 0 0]) (cs := [Sl.v r28]) slice26 zero27 rfl rfl (by decide) (by decide) rfl rfl fun r100 H101 hb102 => ?_
                    have h := h r100 H101 hb102
                    refine ⟨_, rfl, ?_⟩
                    refine plan_one (j := 3) (S2 := 127) (by decide +kernel) rfl (by decide) rfl ?_
                    refine do_append (zs := [.slice none 0 0]) slice26 bytes27 (by decide) zero27 rfl rfl (by decide) rfl rfl Try.underlying26 rfl h fun r103 H104 h => ?_
                    refine ⟨_, rfl, ?_⟩
                    refine plan_commit2 (Ne.symm (upd_none hTb99).1) hTb69 fun hh106 => ?_
                    have hTb99 := (upd_none hTb99).2
                    have h := h r68 _ ⟨b69, hh106, hrb69, rfl⟩
                    refine plan_commit hTb99 fun hh108 => ?_
                    have h := h r98 _ ⟨b99, hh108, hrb99, rfl⟩
                    refine plan_one (j := 7) (S2 := 255) (by decide +kernel) rfl (by decide) rfl ?_
                    refine do_append (zs := [.slice none 0 0]) slice26 bytes27 (by decide) zero27 rfl rfl (by decide) rfl rfl Try.underlying26 rfl h fun r109 H110 h => ?_
                    refine ⟨_, rfl, ?_⟩
                    refine plan_one (j := 8) (S2 := 511) (by decide +kernel) rfl (by decide) rfl ?_
                    refine OpQ.do (v := Sl.v r103) (q_assign rfl) ⟨_, rfl, ?_⟩
                    refine plan_one (j := 9) (S2 := 1023) (by decide +kernel) rfl (by decide) rfl ?_
                    refine OpQ.do (v := Sl.v r109) (q_assign rfl) ⟨_, rfl, ?_⟩
                    refine plan_done (by decide +kernel) ?_
                    exact hj23 _ _ _ h ⟨e19_0, e19_1, e19_5, rfl, rfl, e19_8⟩
              · refine pstep_yes (S2 := 49) rfl (by decide +kernel) (by decide) rfl ?_
                refine do_mkT (zs := [.int .u8 0]) slice27 bytes5 (by decide) zero5 rfl rfl (by decide) rfl rfl hm27 fun b112 r111 hHb112 hTb112 hrb112 => ?_
                refine ⟨_, rfl, ?_⟩
                refine plan_step (R := [1, 6]) (by decide +kernel) ⟨?_, ?_, trivial⟩
                · refine pstep_yes (S2 := 51) rfl (by decide +kernel) (by decide) rfl ?_
                  refine do_mk (zs := [.int .u8 0]) slice27 bytes5 (by decide) zero5 rfl rfl (by decide) rfl rfl hm26 fun r113 H114 hb115 => ?_
                  have h := h r113 H114 hb115
                  refine ⟨_, rfl, ?_⟩
                  refine plan_step (R := [2, 6]) (by decide +kernel) ⟨?_, ?_, trivial⟩
                  · refine pstep_yes (S2 := 55) rfl (by decide +kernel) (by decide) rfl ?_
                    refine do_bs (ps := [(0, Sl.v r113)]) (zs := [.slice none 0 0]) (cs := [Sl.v r113]) slice26 zero27 rfl rfl (by decide) (by decide) rfl rfl fun r116 H117 hb118 => ?_
                    have h := h r116 H117 hb118
                    refine ⟨_, rfl, ?_⟩
                    refine plan_step (R := [3, 6]) (by decide +kernel) ⟨?_, ?_, trivial⟩
                    · refine pstep_yes (S2 := 63) rfl (by decide +kernel) (by decide) rfl ?_
                      refine do_append (zs := [.slice none 0 0]) slice26 bytes27 (by decide) zero27 rfl rfl (by decide) rfl rfl Try.underlying26 rfl h fun r119 H120 h => ?_
                      refine ⟨_, rfl, ?_⟩
                      refine plan_commit hTb112 fun hh122 => ?_
                      have h := h r111 _ ⟨b112, hh122, hrb112, rfl⟩
                      refine plan_one (j := 6) (S2 := 127) (by decide +kernel) rfl (by decide) rfl ?_
                      refine do_bs (ps := [(0, Sl.v r111)]) (zs := [.slice none 0 0]) (cs := [Sl.v r111]) slice26 zero27 rfl rfl (by decide) (by decide) rfl rfl fun r123 H124 hb125 => ?_
                      have h := h r123 H124 hb125
                      refine ⟨_, rfl, ?_⟩
                      refine plan_one (j := 7) (S2 := 255) (by decide +kernel) rfl (by decide) rfl ?_
                      refine do_append (zs := [.slice none 0 0]) slice26 bytes27 (by decide) zero27 rfl rfl (by decide) rfl rfl Try.underlying26 rfl h fun r126 H127 h => ?_
                      refine ⟨_, rfl, ?_⟩
                      refine plan_one (j := 8) (S2 := 511) (by decide +kernel) rfl (by decide) rfl ?_
                      refine OpQ.do (v := Sl.v r119) (q_assign rfl) ⟨_, rfl, ?_⟩
                      refine plan_one (j := 9) (S2 := 1023) (by decide +kernel) rfl (by decide) rfl ?_
                      refine OpQ.do (v := Sl.v r126) (q_assign rfl) ⟨_, rfl, ?_⟩
                      refine plan_done (by decide +kernel) ?_
                      exact hj23 _ _ _ h ⟨e19_0, e19_1, e19_5, rfl, rfl, e19_8⟩
                    · refine pstep_yes (S2 := 119) rfl (by decide +kernel) (by decide) rfl ?_
                      refine do_bsT (ps := [(0, Sl.v r111)]) (zs := [.slice none 0 0]) (cs := [Sl.v r111]) slice26 zero27 rfl rfl (by decide) (by decide) rfl rfl fun b132 r131 hHb132 hTb132 hrb132 => ?_
                      refine ⟨_, rfl, ?_⟩
                      refine plan_one (j := 3) (S2 := 127) (by decide +kernel) rfl (by decide) rfl ?_
                      refine do_append (zs := [.slice none 0 0]) slice26 bytes27 (by decide) zero27 rfl rfl (by decide) rfl rfl Try.underlying26 rfl h fun r133 H134 h => ?_
                      refine ⟨_, rfl, ?_⟩
                      refine plan_commit2 (Ne.symm (upd_none hTb132).1) hTb112 fun hh136 => ?_
                      have hTb132 := (upd_none hTb132).2
                      have h := h r111 _ ⟨b112, hh136, hrb112, rfl⟩
                      refine plan_commit hTb132 fun hh138 => ?_
                      have h := h r131 _ ⟨b132, hh138, hrb132, rfl⟩
                      refine plan_one (j := 7) (S2 := 255) (by decide +kernel) rfl (by decide) rfl ?_
                      refine do_append (zs := [.slice none 0 0]) slice26 bytes27 (by decide) zero27 rfl rfl (by decide) rfl rfl Try.underlying26 rfl h fun r139 H140 h => ?_
                      refine ⟨_, rfl, ?_⟩
                      refine plan_one (j := 8) (S2 := 511) (by decide +kernel) rfl (by decide) rfl ?_
                      refine OpQ.do (v := Sl.v r133) (q_assign rfl) ⟨_, rfl, ?_⟩
                      refine plan_one (j := 9) (S2 := 1023) (by decide +kernel) rfl (by decide) rfl ?_
                      refine OpQ.do (v := Sl.v r139) (q_assign rfl) ⟨_, rfl, ?_⟩
                      refine plan_done (by decide +kernel) ?_
                      exact hj23 _ _ _ h ⟨e19_0, e19_1, e19_5, rfl, rfl, e19_8⟩
                  · refine pstep_yes (S2 := 115) rfl (by decide +kernel) (by decide) rfl ?_
                    refine do_bsT (ps := [(0, Sl.v r111)]) (zs := [.slice none 0 0]) (cs := [Sl.v r111]) slice26 zero27 rfl rfl (by decide) (by decide) rfl rfl fun b145 r144 hHb145 hTb145 hrb145 => ?_
                    refine ⟨_, rfl, ?_⟩
                    refine plan_one (j := 2) (S2 := 119) (by decide +kernel) rfl (by decide) rfl ?_
                    refine do_bs (ps := [(0, Sl.v r113)]) (zs := [.slice none 0 0]) (cs := [Sl.v r113]) slice26 zero27 rfl rfl (by decide) (by decide) rfl rfl fun r146 H147 hb148 => ?_
                    have h := h r146 H147 hb148
                    refine ⟨_, rfl, ?_⟩
                    refine plan_one (j := 3) (S2 := 127) (by decide +kernel) rfl (by decide) rfl ?_
                    refine do_append (zs := [.slice none 0 0]) slice26 bytes27 (by decide) zero27 rfl rfl (by decide) rfl rfl Try.underlying26 rfl h fun r149 H150 h => ?_
                    refine ⟨_, rfl, ?_⟩
                    refine plan_commit2 (Ne.symm (upd_none hTb145).1) hTb112 fun hh152 => ?_
                    have hTb145 := (upd_none hTb145).2
                    have h := h r111 _ ⟨b112, hh152, hrb112, rfl⟩
                    refine plan_commit hTb145 fun hh154 => ?_
                    have h := h r144 _ ⟨b145, hh154, hrb145, rfl⟩
                    refine plan_one (j := 7) (S2 := 255) (by decide +kernel) rfl (by decide) rfl ?_
                    refine do_append (zs := [.slice none 0 0]) slice26 bytes27 (by decide) zero27 rfl rfl (by decide) rfl rfl Try.underlying26 rfl h fun r155 H156 h => ?_
                    refine ⟨_, rfl, ?_⟩
                    refine plan_one (j := 8) (S2 := 511) (by decide +kernel) rfl (by decide) rfl ?_
                    refine OpQ.do (v := Sl.v r149) (q_assign rfl) ⟨_, rfl, ?_⟩
                    refine plan_one (j := 9) (S2 := 1023) (by decide +kernel) rfl (by decide) rfl ?_
                    refine OpQ.do (v := Sl.v r155) (q_assign rfl) ⟨_, rfl, ?_⟩
                    refine plan_done (by decide +kernel) ?_
                    exact hj23 _ _ _ h ⟨e19_0, e19_1, e19_5, rfl, rfl, e19_8⟩
                · refine pstep_yes (S2 := 113) rfl (by decide +kernel) (by decide) rfl ?_
                  refine do_bsT (ps := [(0, Sl.v r111)]) (zs := [.slice none 0 0]) (cs := [Sl.v r111]) slice26 zero27 rfl rfl (by decide) (by decide) rfl rfl fun b161 r160 hHb161 hTb161 hrb161 => ?_
                  refine ⟨_, rfl, ?_⟩
                  refine plan_one (j := 1) (S2 := 115) (by decide +kernel) rfl (by decide) rfl ?_
                  refine do_mk (zs := [.int .u8 0]) slice27 bytes5 (by decide) zero5 rfl rfl (by decide) rfl rfl hm26 fun r162 H163 hb164 => ?_
                  have h := h r162 H163 hb164
                  refine ⟨_, rfl, ?_⟩
                  refine plan_one (j := 2) (S2 := 119) (by decide +kernel) rfl (by decide) rfl ?_
                  refine do_bs (ps := [(0, Sl.v r162)]) (zs := [.slice none 0 0]) (cs := [Sl.v r162]) slice26 zero27 rfl rfl (by decide) (by decide) rfl rfl fun r165 H166 hb167 => ?_
                  have h := h r165 H166 hb167
                  refine ⟨_, rfl, ?_⟩
                  refine plan_one (j := 3) (S2 := 127) (by decide +kernel) rfl (by decide) rfl ?_
                  refine do_append (zs := [.slice none 0 0]) slice26 bytes27 (by decide) zero27 rfl rfl (by decide) rfl rfl Try.underlying26 rfl h fun r168 H169 h => ?_
                  refine ⟨_, rfl, ?_⟩
                  refine plan_commit2 (Ne.symm (upd_none hTb161).1) hTb112 fun hh171 => ?_
                  have hTb161 := (upd_none hTb161).2
                  have h := h r111 _ ⟨b112, hh171, hrb112, rfl⟩
                  refine plan_commit hTb161 fun hh173 => ?_
                  have h := h r160 _ ⟨b161, hh173, hrb161, rfl⟩
                  refine plan_one (j := 7) (S2 := 255) (by decide +kernel) rfl (by decide) rfl ?_
                  refine do_append (zs := [.slice none 0 0]) slice26 bytes27 (by decide) zero27 rfl rfl (by decide) rfl rfl Try.underlying26 rfl h fun r174 H175 h => ?_
                  refine ⟨_, rfl, ?_⟩
                  refine plan_one (j := 8) (S2 := 511) (by decide +kernel) rfl (by decide) rfl ?_
                  refine OpQ.do (v := Sl.v r168) (q_assign rfl) ⟨_, rfl, ?_⟩
                  refine plan_one (j := 9) (S2 := 1023) (by decide +kernel) rfl (by decide) rfl ?_
                  refine OpQ.do (v := Sl.v r174) (q_assign rfl) ⟨_, rfl, ?_⟩
                  refine plan_done (by decide +kernel) ?_
                  exact hj23 _ _ _ h ⟨e19_0, e19_1, e19_5, rfl, rfl, e19_8⟩
          · have h := h.2 hc21
            refine Go.condF (btF rfl hc21) ?_
            refine Go.exit rfl ?_
            refine Go.seq ?_
            refine Go.seq ?_
            refine Go.region rfl ?_
            refine GoOps.q (v := .int .i64 0) rfl rfl (by decide) (q_assign rfl) ?_
            refine GoOps.nil ?_
            refine Go.block ?_
            refine loop_go (fun ρ (s176 : Sl × Sl × Int) => ρ 0 = .int .i64 p0 ∧ ρ 1 = Sl.v p1 ∧ ρ 5 = .pointer y15 ∧ ρ 6 = Sl.v s176.1 ∧ ρ 7 = Sl.v s176.2.1 ∧ ρ 9 = .int .i64 s176.2.2) h ⟨e19_0, e19_1, e19_5, e19_6, e19_7, rfl⟩ ?_
            clear h
            intro ρ s176 H179 again177 hE h hagain177
            obtain ⟨e178_0, e178_1, e178_5, e178_6, e178_7, e178_9⟩ := hE
            refine Go.seq ?_
            refine Go.seq ?_
            refine Go.region rfl ?_
            refine GoOps.q (v := .int .i64 s176.2.2) rfl rfl (by decide) (q_move e178_9) ?_
            refine GoOps.q (v := Sl.v p1) rfl rfl (by decide) (q_move e178_1) ?_
            refine GoOps.q (v := .int .i64 (p1.len : Int)) rfl rfl (by decide) (q_len Try.underlying22 rfl (ls1 rfl)) ?_
            refine GoOps.q (v := .bool (decide (s176.2.2 < (p1.len : Int)))) rfl rfl (by decide) (q_lss rfl rfl) ?_
            refine GoOps.nil ?_
            rcases bor (decide (s176.2.2 < (p1.len : Int))) with hc180 | hc180
            · have h := h.1 hc180
              refine Go.condT (btT rfl hc180) ?_
              refine Go.skip ?_
              refine Go.seq ?_
              refine Go.block ?_
              refine Go.seq ?_
              refine join_go 1 (fun ρ (s181 : Addr) => ρ 0 = .int .i64 p0 ∧ ρ 1 = Sl.v p1 ∧ ρ 5 = .pointer y15 ∧ ρ 6 = Sl.v s176.1 ∧ ρ 7 = Sl.v s176.2.1 ∧ ρ 9 = .int .i64 s176.2.2 ∧ ρ 10 = .pointer (some s181)) h ?_ ?_ <;> clear h
              · intro s181 H183 ρ h hE
                obtain ⟨e184_0, e184_1, e184_5, e184_6, e184_7, e184_9, e184_10⟩ := hE
                refine Go.seq ?_
                refine Go.seq ?_
                refine Go.region rfl ?_
                refine GoOps.q (v := .pointer y15) rfl rfl (by decide) (q_move e184_5) ?_
                obtain ⟨x185, hx186, h⟩ := h
                refine GoOps.q (v := .agg ([.int .i64 x185.1, .int .i64 x185.2.1, .int .i64 x185.2.2.1, .int .i64 x185.2.2.2.1, Sl.v x185.2.2.2.2] : List Value).toArray) rfl rfl (by decide) (q_loadA aggr29 e184_10 hx186) ?_
                refine call_dst rfl (by decide) body10 (ideal_Ideal_Do_s _ _ _ _ h) rfl ?_
                rintro _ H187 ⟨y188, rfl, h⟩
                refine GoOps.q (v := .bool (!y188)) rfl rfl (by decide) (q_not rfl) ?_
                refine GoOps.nil ?_
                rcases bor (!y188) with hc189 | hc189
                · have h := h.1 hc189
                  refine Go.condT (btT rfl hc189) ?_
                  refine Go.seq ?_
                  refine Go.region rfl ?_
                  refine GoOps.q (v := .bool false) rfl rfl (by decide) (q_assign rfl) ?_
                  refine GoOps.nil ?_
                  exact Go.ret ⟨.inl rfl, _, _, DOk.nil, (resOk1 Try.results3 rfl), ⟨_, rfl, h⟩⟩
                · have h := h.2 hc189
                  refine Go.condF (btF rfl hc189) ?_
                  refine Go.skip ?_
                  refine Go.seq ?_
                  refine Go.seq ?_
                  refine Go.region rfl ?_
                  refine GoOps.q (v := .pointer (some (s181.add 0))) rfl rfl (by decide) (q_fieldAddr foff29_0 e184_10) ?_
                  obtain ⟨x190, hx191, h⟩ := h
                  refine GoOps.q (v := .int .i64 x190) rfl rfl (by decide) (q_load scalar3 rfl hx191) ?_
                  refine GoOps.q (v := .bool (x190 == 3)) rfl rfl (by decide) (q_eql rfl rfl) ?_
                  refine GoOps.nil ?_
                  refine join_go 1 (fun ρ (s192 : Sl) => ρ 0 = .int .i64 p0 ∧ ρ 1 = Sl.v p1 ∧ ρ 5 = .pointer y15 ∧ ρ 6 = Sl.v s192 ∧ ρ 9 = .int .i64 s176.2.2 ∧ ρ 10 = .pointer (some s181)) h ?_ ?_ <;> clear h
                  · intro s192 H194 ρ h hE
                    obtain ⟨e195_0, e195_1, e195_5, e195_6, e195_9, e195_10⟩ := hE
                    refine Go.seq ?_
                    refine Go.region rfl ?_
                    refine GoOps.q (v := Sl.v Sl.nil) rfl rfl (by decide) (q_assign rfl) ?_
                    refine GoOps.nil ?_
                    refine Go.seq ?_
                    refine Go.seq ?_
                    refine Go.region rfl ?_
                    refine GoOps.q (v := .int .i64 0) rfl rfl (by decide) (q_assign rfl) ?_
                    refine GoOps.nil ?_
                    refine Go.block ?_
                    refine loop_go (fun ρ (s196 : Sl × Int) => ρ 0 = .int .i64 p0 ∧ ρ 1 = Sl.v p1 ∧ ρ 5 = .pointer y15 ∧ ρ 6 = Sl.v s192 ∧ ρ 7 = Sl.v s196.1 ∧ ρ 9 = .int .i64 s176.2.2 ∧ ρ 10 = .pointer (some s181) ∧ ρ 11 = .int .i64 s196.2) h ⟨e195_0, e195_1, e195_5, e195_6, rfl, e195_9, e195_10, rfl⟩ ?_
                    clear h
                    intro ρ s196 H199 again197 hE h hagain197
                    obtain ⟨e198_0, e198_1, e198_5, e198_6, e198_7, e198_9, e198_10, e198_11⟩ := hE
                    refine Go.seq ?_
                    refine Go.seq ?_
                    refine Go.region rfl ?_
                    refine GoOps.q (v := .int .i64 s196.2) rfl rfl (by decide) (q_move e198_11) ?_
                    refine GoOps.q (v := .int .i64 p0) rfl rfl (by decide) (q_move e198_0) ?_
                    refine GoOps.q (v := .bool (decide (s196.2 < p0))) rfl rfl (by decide) (q_lss rfl rfl) ?_
                    refine GoOps.nil ?_
                    rcases bor (decide (s196.2 < p0)) with hc200 | hc200
                    · have h := h.1 hc200
                      refine Go.condT (btT rfl hc200) ?_
                      refine Go.skip ?_
                      refine Go.seq ?_
                      refine Go.block ?_
                      refine Go.seq ?_
                      refine Go.region rfl ?_
                      refine GoOps.q (v := .pointer y15) rfl rfl (by decide) (q_move e198_5) ?_
                      refine GoOps.q (v := .int .i64 s196.2) rfl rfl (by decide) (q_move e198_11) ?_
                      refine call_dst rfl (by decide) body11 (ideal_Ideal_Look_s _ _ _ _ h) rfl ?_
                      rintro _ H201 ⟨y202, rfl, h⟩
                      refine GoOps.q (v := Sl.v y202) rfl rfl (by decide) (q_assign rfl) ?_
                      refine GoOps.nil ?_
                      refine Go.seq ?_
                      refine Go.seq ?_
                      refine Go.draw mixed ?_
                      refine plan_pure (i := 0) (d := 74) (S2 := 1) (v := .pointer y15) rfl (by decide +kernel) rfl (q_move e198_5) ?_
                      refine plan_pure (i := 1) (d := 75) (S2 := 3) (v := .int .i64 s196.2) rfl (by decide +kernel) rfl (q_move e198_11) ?_
                      refine plan_pure (i := 3) (d := 77) (S2 := 11) (v := Sl.v s192) rfl (by decide +kernel) rfl (q_move e198_6) ?_
                      refine plan_pure (i := 4) (d := 78) (S2 := 27) (v := .int .i64 s196.2) rfl (by decide +kernel) rfl (q_move e198_11) ?_
                      obtain ⟨a203, ha204, h⟩ := h
                      refine plan_pure (i := 5) (d := 79) (S2 := 59) (v := .pointer (some a203)) rfl (by decide +kernel) rfl (q_idx slice26 ha204 rfl rfl) ?_
                      obtain ⟨x205, hx206, h⟩ := h
                      refine plan_load (i := 6) (d := 80) (S2 := 123) (v := Sl.v x205) rfl (by decide +kernel) rfl (q_load scalar27 rfl hx206) ?_
                      refine plan_one (j := 2) (S2 := 127) (by decide +kernel) rfl (by decide) rfl ?_
                      refine do_call2 body13 (ideal_Ideal_Read_s _ _ _ _ h) rfl ?_
                      rintro _ H207 ⟨y208, rfl, h⟩
                      obtain ⟨hr209, h⟩ := h
                      refine ⟨_, (.inr ⟨⟨_, _, rfl, rfl, q_load scalar27 rfl hr209⟩, _, rfl, rfl⟩), ?_⟩
                      refine plan_one (j := 7) (S2 := 255) (by decide +kernel) rfl (by decide) rfl ?_
                      refine do_call2 body12 (keelsonalike_Bytes_s _ _ _ _ h) rfl ?_
                      rintro _ H210 ⟨y211, rfl, h⟩
                      refine ⟨_, (.inl ⟨⟨[7], by decide +kernel, rfl⟩, rfl⟩), ?_⟩
                      refine plan_pure (i := 8) (d := 82) (S2 := 511) (v := .bool (!y211)) rfl (by decide +kernel) rfl (q_not rfl) ?_
                      refine plan_pure (i := 9) (d := 83) (S2 := 1023) (v := .bool (!y211)) rfl (by decide +kernel) rfl (q_move rfl) ?_
                      refine join_plan 16383 [] (fun ρ (s213 : Bool) => ρ 0 = .int .i64 p0 ∧ ρ 1 = Sl.v p1 ∧ ρ 5 = .pointer y15 ∧ ρ 6 = Sl.v s192 ∧ ρ 7 = Sl.v s196.1 ∧ ρ 9 = .int .i64 s176.2.2 ∧ ρ 10 = .pointer (some s181) ∧ ρ 11 = .int .i64 s196.2 ∧ ρ 12 = Sl.v y202 ∧ ρ 87 = .bool s213) h ?_ ?_ <;> clear h
                      · intro s213 H215 ρ h hE
                        obtain ⟨e216_0, e216_1, e216_5, e216_6, e216_7, e216_9, e216_10, e216_11, e216_12, e216_87⟩ := hE
                        refine plan_done (by decide +kernel) ?_
                        rcases bor s213 with hc217 | hc217
                        · have h := h.1 hc217
                          refine Go.condT (btT e216_87 hc217) ?_
                          refine Go.seq ?_
                          refine Go.region rfl ?_
                          refine GoOps.q (v := .bool false) rfl rfl (by decide) (q_assign rfl) ?_
                          refine GoOps.nil ?_
                          exact Go.ret ⟨.inl rfl, _, _, DOk.nil, (resOk1 Try.results3 rfl), ⟨_, rfl, h⟩⟩
                        · have h := h.2 hc217
                          refine Go.condF (btF e216_87 hc217) ?_
                          refine Go.skip ?_
                          refine Go.seq ?_
                          refine Go.seq ?_
                          refine Go.region rfl ?_
                          refine GoOps.q (v := .pointer (some (s181.add 0))) rfl rfl (by decide) (q_fieldAddr foff29_0 e216_10) ?_
                          obtain ⟨x218, hx219, h⟩ := h
                          refine GoOps.q (v := .int .i64 x218) rfl rfl (by decide) (q_load scalar3 rfl hx219) ?_
                          refine GoOps.q (v := .bool (x218 == 1)) rfl rfl (by decide) (q_eql rfl rfl) ?_
                          refine GoOps.q (v := .bool (x218 == 1)) rfl rfl (by decide) (q_move rfl) ?_
                          refine join_ops 5 (fun ρ (s221 : Bool) => ρ 0 = .int .i64 p0 ∧ ρ 1 = Sl.v p1 ∧ ρ 5 = .pointer y15 ∧ ρ 6 = Sl.v s192 ∧ ρ 7 = Sl.v s196.1 ∧ ρ 9 = .int .i64 s176.2.2 ∧ ρ 10 = .pointer (some s181) ∧ ρ 11 = .int .i64 s196.2 ∧ ρ 12 = Sl.v y202 ∧ ρ 96 = .bool s221) h ?_ ?_ <;> clear h
                          · intro s221 H223 ρ h hE
                            obtain ⟨e224_0, e224_1, e224_5, e224_6, e224_7, e224_9, e224_10, e224_11, e224_12, e224_96⟩ := hE
                            refine GoOps.q (v := .bool s221) rfl rfl (by decide) (q_move e224_96) ?_
                            refine join_ops 6 (fun ρ (s226 : Bool) => ρ 0 = .int .i64 p0 ∧ ρ 1 = Sl.v p1 ∧ ρ 5 = .pointer y15 ∧ ρ 6 = Sl.v s192 ∧ ρ 7 = Sl.v s196.1 ∧ ρ 9 = .int .i64 s176.2.2 ∧ ρ 10 = .pointer (some s181) ∧ ρ 11 = .int .i64 s196.2 ∧ ρ 12 = Sl.v y202 ∧ ρ 103 = .bool s226) h ?_ ?_ <;> clear h
                            · intro s226 H228 ρ h hE
                              obtain ⟨e229_0, e229_1, e229_5, e229_6, e229_7, e229_9, e229_10, e229_11, e229_12, e229_103⟩ := hE
                              refine GoOps.nil ?_
                              rcases bor s226 with hc230 | hc230
                              · have h := h.1 hc230
                                refine Go.condT (btT e229_103 hc230) ?_
                                refine Go.seq ?_
                                refine Go.region rfl ?_
                                refine GoOps.q (v := .bool false) rfl rfl (by decide) (q_assign rfl) ?_
                                refine GoOps.nil ?_
                                exact Go.ret ⟨.inl rfl, _, _, DOk.nil, (resOk1 Try.results3 rfl), ⟨_, rfl, h⟩⟩
                              · have h := h.2 hc230
                                refine Go.condF (btF e229_103 hc230) ?_
                                refine Go.skip ?_
                                refine Go.region rfl ?_
                                refine GoOps.q (v := Sl.v s196.1) rfl rfl (by decide) (q_move e229_7) ?_
                                refine GoOps.q (v := Sl.v y202) rfl rfl (by decide) (q_move e229_12) ?_
                                refine op_dst rfl rfl (by decide) (do_bs (ps := [(0, Sl.v y202)]) (zs := [.slice none 0 0]) (cs := [Sl.v y202]) slice26 zero27 rfl rfl (by decide) (by decide) rfl rfl fun r231 H232 hb233 => ?_) 
                                have h := h r231 H232 hb233
                                refine op_dst rfl rfl (by decide) (do_append (zs := [.slice none 0 0]) slice26 bytes27 (by decide) zero27 rfl rfl (by decide) rfl rfl Try.underlying26 rfl h fun r234 H235 h => ?_) 
                                refine GoOps.q (v := Sl.v r234) rfl rfl (by decide) (q_assign rfl) ?_
                                refine GoOps.nil ?_
                                refine Go.inBlock ?_
                                refine Go.region rfl ?_
                                refine GoOps.q (v := .int .i64 s196.2) rfl rfl (by decide) (q_move e229_11) ?_
                                refine GoOps.q (v := .int .i64 (IntKind.wrap .i64 (s196.2 + 1))) rfl rfl (by decide) (q_add rfl rfl) ?_
                                refine GoOps.q (v := .int .i64 (IntKind.wrap .i64 (s196.2 + 1))) rfl rfl (by decide) (q_assign rfl) ?_
                                refine GoOps.nil ?_
                                exact hagain197 _ _ _ h ⟨e229_0, e229_1, e229_5, e229_6, rfl, e229_9, e229_10, rfl⟩
                            · intro j227 hj227 h
                              rcases bor s221 with hc225 | hc225
                              · have h := h.1 hc225
                                refine GoOps.q (v := Sl.v y202) (want_yes rfl rfl rfl hc225) rfl (by decide) (q_move e224_12) ?_
                                refine GoOps.q (v := .pointer (some (s181.add 4))) (want_yes rfl rfl rfl hc225) rfl (by decide) (q_fieldAddr foff29_4 e224_10) ?_
                                obtain ⟨x236, hx237, h⟩ := h
                                refine GoOps.q (v := Sl.v x236) (want_yes rfl rfl rfl hc225) rfl (by decide) (q_load scalar27 rfl hx237) ?_
                                refine call_dst (want_yes rfl rfl rfl hc225) (by decide) body12 (keelsonalike_Bytes_s _ _ _ _ h) rfl ?_
                                rintro _ H238 ⟨y239, rfl, h⟩
                                refine GoOps.q (v := .bool (!y239)) (want_yes rfl rfl rfl hc225) rfl (by decide) (q_not rfl) ?_
                                refine GoOps.q (v := .bool (!y239)) rfl rfl (by decide) (q_pickT (btT rfl hc225) rfl) ?_
                                exact hj227 (!y239) _ _ h (by exact ⟨e224_0, e224_1, e224_5, e224_6, e224_7, e224_9, e224_10, e224_11, e224_12, rfl⟩)
                              · have h := h.2 hc225
                                refine no_dst (want_no rfl rfl rfl hc225) rfl (by decide) ?_
                                refine no_dst (want_no rfl rfl rfl hc225) rfl (by decide) ?_
                                refine no_dst (want_no rfl rfl rfl hc225) rfl (by decide) ?_
                                refine no_dst (want_no rfl rfl rfl hc225) rfl (by decide) ?_
                                refine no_dst (want_no rfl rfl rfl hc225) rfl (by decide) ?_
                                refine GoOps.q (v := .bool false) rfl rfl (by decide) (q_pickF (btF rfl hc225) rfl) ?_
                                exact hj227 false _ _ h (by exact ⟨e224_0, e224_1, e224_5, e224_6, e224_7, e224_9, e224_10, e224_11, e224_12, rfl⟩)
                          · intro j222 hj222 h
                            rcases bor (x218 == 1) with hc220 | hc220
                            · have h := h.1 hc220
                              refine GoOps.q (v := .pointer (some (s181.add 1))) (want_yes rfl rfl rfl hc220) rfl (by decide) (q_fieldAddr foff29_1 e216_10) ?_
                              obtain ⟨x240, hx241, h⟩ := h
                              refine GoOps.q (v := .int .i64 x240) (want_yes rfl rfl rfl hc220) rfl (by decide) (q_load scalar3 rfl hx241) ?_
                              refine GoOps.q (v := .int .i64 s196.2) (want_yes rfl rfl rfl hc220) rfl (by decide) (q_move e216_11) ?_
                              refine GoOps.q (v := .bool (x240 == s196.2)) (want_yes rfl rfl rfl hc220) rfl (by decide) (q_eql rfl rfl) ?_
                              refine GoOps.q (v := .bool (x240 == s196.2)) rfl rfl (by decide) (q_pickT (btT rfl hc220) rfl) ?_
                              exact hj222 (x240 == s196.2) _ _ h (by exact ⟨e216_0, e216_1, e216_5, e216_6, e216_7, e216_9, e216_10, e216_11, e216_12, rfl⟩)
                            · have h := h.2 hc220
                              refine no_dst (want_no rfl rfl rfl hc220) rfl (by decide) ?_
                              refine no_dst (want_no rfl rfl rfl hc220) rfl (by decide) ?_
                              refine no_dst (want_no rfl rfl rfl hc220) rfl (by decide) ?_
                              refine no_dst (want_no rfl rfl rfl hc220) rfl (by decide) ?_
                              refine GoOps.q (v := .bool false) rfl rfl (by decide) (q_pickF (btF rfl hc220) rfl) ?_
                              exact hj222 false _ _ h (by exact ⟨e216_0, e216_1, e216_5, e216_6, e216_7, e216_9, e216_10, e216_11, e216_12, rfl⟩)
                      · intro j214 hj214 h
                        rcases bor (!y211) with hc212 | hc212
                        · have h := h.1 hc212
                          refine plan_skip (i := 10) (d := 84) (S2 := 2047) rfl (by decide +kernel) (want_no rfl rfl rfl hc212) ?_
                          refine plan_skip (i := 11) (d := 85) (S2 := 4095) rfl (by decide +kernel) (want_no rfl rfl rfl hc212) ?_
                          refine plan_skip (i := 12) (d := 86) (S2 := 8191) rfl (by decide +kernel) (want_no rfl rfl rfl hc212) ?_
                          refine plan_pure (i := 13) (d := 87) (S2 := 16383) (v := .bool true) rfl (by decide +kernel) rfl (q_pickT (btT rfl hc212) rfl) ?_
                          exact hj214 _ _ _ h ⟨e198_0, e198_1, e198_5, e198_6, e198_7, e198_9, e198_10, e198_11, rfl, rfl⟩
                        · have h := h.2 hc212
                          refine plan_pure (i := 10) (d := 84) (S2 := 2047) (v := Sl.v y202) rfl (by decide +kernel) (want_yes rfl rfl rfl hc212) (q_move rfl) ?_
                          refine plan_pure (i := 11) (d := 85) (S2 := 4095) (v := .int .i64 (y202.len : Int)) rfl (by decide +kernel) (want_yes rfl rfl rfl hc212) (q_len Try.underlying27 rfl (ls1 rfl)) ?_
                          refine plan_pure (i := 12) (d := 86) (S2 := 8191) (v := .bool ((y202.len : Int) != 64)) rfl (by decide +kernel) (want_yes rfl rfl rfl hc212) (q_neq rfl rfl) ?_
                          refine plan_pure (i := 13) (d := 87) (S2 := 16383) (v := .bool ((y202.len : Int) != 64)) rfl (by decide +kernel) rfl (q_pickF (btF rfl hc212) rfl) ?_
                          exact hj214 _ _ _ h ⟨e198_0, e198_1, e198_5, e198_6, e198_7, e198_9, e198_10, e198_11, rfl, rfl⟩
                    · have h := h.2 hc200
                      refine Go.condF (btF rfl hc200) ?_
                      refine Go.exit rfl ?_
                      refine Go.seq ?_
                      refine Go.region rfl ?_
                      refine GoOps.q (v := .pointer (some (s181.add 0))) rfl rfl (by decide) (q_fieldAddr foff29_0 e198_10) ?_
                      obtain ⟨x242, hx243, h⟩ := h
                      refine GoOps.q (v := .int .i64 x242) rfl rfl (by decide) (q_load scalar3 rfl hx243) ?_
                      refine GoOps.q (v := .bool (x242 == 3)) rfl rfl (by decide) (q_eql rfl rfl) ?_
                      refine GoOps.q (v := .bool (x242 == 3)) rfl rfl (by decide) (q_move rfl) ?_
                      refine join_ops 6 (fun ρ (s245 : Bool) => ρ 0 = .int .i64 p0 ∧ ρ 1 = Sl.v p1 ∧ ρ 5 = .pointer y15 ∧ ρ 6 = Sl.v s192 ∧ ρ 7 = Sl.v s196.1 ∧ ρ 9 = .int .i64 s176.2.2 ∧ ρ 117 = .bool s245) h ?_ ?_ <;> clear h
                      · intro s245 H247 ρ h hE
                        obtain ⟨e248_0, e248_1, e248_5, e248_6, e248_7, e248_9, e248_117⟩ := hE
                        refine GoOps.q (v := .bool s245) rfl rfl (by decide) (q_move e248_117) ?_
                        refine join_ops 6 (fun ρ (s250 : Bool) => ρ 0 = .int .i64 p0 ∧ ρ 1 = Sl.v p1 ∧ ρ 5 = .pointer y15 ∧ ρ 6 = Sl.v s192 ∧ ρ 7 = Sl.v s196.1 ∧ ρ 9 = .int .i64 s176.2.2 ∧ ρ 124 = .bool s250) h ?_ ?_ <;> clear h
                        · intro s250 H252 ρ h hE
                          obtain ⟨e253_0, e253_1, e253_5, e253_6, e253_7, e253_9, e253_124⟩ := hE
                          refine GoOps.nil ?_
                          rcases bor s250 with hc254 | hc254
                          · have h := h.1 hc254
                            refine Go.condT (btT e253_124 hc254) ?_
                            refine Go.seq ?_
                            refine Go.region rfl ?_
                            refine GoOps.q (v := .bool false) rfl rfl (by decide) (q_assign rfl) ?_
                            refine GoOps.nil ?_
                            exact Go.ret ⟨.inl rfl, _, _, DOk.nil, (resOk1 Try.results3 rfl), ⟨_, rfl, h⟩⟩
                          · have h := h.2 hc254
                            refine Go.condF (btF e253_124 hc254) ?_
                            refine Go.skip ?_
                            refine Go.inBlock ?_
                            refine Go.region rfl ?_
                            refine GoOps.q (v := .int .i64 s176.2.2) rfl rfl (by decide) (q_move e253_9) ?_
                            refine GoOps.q (v := .int .i64 (IntKind.wrap .i64 (s176.2.2 + 1))) rfl rfl (by decide) (q_add rfl rfl) ?_
                            refine GoOps.q (v := .int .i64 (IntKind.wrap .i64 (s176.2.2 + 1))) rfl rfl (by decide) (q_assign rfl) ?_
                            refine GoOps.nil ?_
                            exact hagain177 _ _ _ h ⟨e253_0, e253_1, e253_5, e253_6, e253_7, rfl⟩
                        · intro j251 hj251 h
                          rcases bor s245 with hc249 | hc249
                          · have h := h.1 hc249
                            refine no_dst (want_no rfl rfl rfl hc249) rfl (by decide) ?_
                            refine no_dst (want_no rfl rfl rfl hc249) rfl (by decide) ?_
                            refine no_dst (want_no rfl rfl rfl hc249) rfl (by decide) ?_
                            refine no_dst (want_no rfl rfl rfl hc249) rfl (by decide) ?_
                            refine no_dst (want_no rfl rfl rfl hc249) rfl (by decide) ?_
                            refine GoOps.q (v := .bool true) rfl rfl (by decide) (q_pickT (btT rfl hc249) rfl) ?_
                            exact hj251 true _ _ h (by exact ⟨e248_0, e248_1, e248_5, e248_6, e248_7, e248_9, rfl⟩)
                          · have h := h.2 hc249
                            refine GoOps.q (v := .pointer y15) (want_yes rfl rfl rfl hc249) rfl (by decide) (q_move e248_5) ?_
                            refine call_dst (want_yes rfl rfl rfl hc249) (by decide) body15 (ideal_Ideal_Seq_s _ _ _ h) rfl ?_
                            rintro _ H255 ⟨y256, rfl, h⟩
                            refine GoOps.q (v := .int .i64 s176.2.2) (want_yes rfl rfl rfl hc249) rfl (by decide) (q_move e248_9) ?_
                            refine GoOps.q (v := .int .i64 (IntKind.wrap .i64 (s176.2.2 + 1))) (want_yes rfl rfl rfl hc249) rfl (by decide) (q_add rfl rfl) ?_
                            refine GoOps.q (v := .bool (decide (y256 < (IntKind.wrap .i64 (s176.2.2 + 1))))) (want_yes rfl rfl rfl hc249) rfl (by decide) (q_lss rfl rfl) ?_
                            refine GoOps.q (v := .bool (decide (y256 < (IntKind.wrap .i64 (s176.2.2 + 1))))) rfl rfl (by decide) (q_pickF (btF rfl hc249) rfl) ?_
                            exact hj251 (decide (y256 < (IntKind.wrap .i64 (s176.2.2 + 1)))) _ _ h (by exact ⟨e248_0, e248_1, e248_5, e248_6, e248_7, e248_9, rfl⟩)
                      · intro j246 hj246 h
                        rcases bor (x242 == 3) with hc244 | hc244
                        · have h := h.1 hc244
                          refine GoOps.q (v := .pointer y15) (want_yes rfl rfl rfl hc244) rfl (by decide) (q_move e198_5) ?_
                          refine call_dst (want_yes rfl rfl rfl hc244) (by decide) body14 (ideal_Ideal_Done_s _ _ _ h) rfl ?_
                          rintro _ H257 ⟨y258, rfl, h⟩
                          refine GoOps.q (v := .pointer y15) (want_yes rfl rfl rfl hc244) rfl (by decide) (q_move e198_5) ?_
                          refine call_dst (want_yes rfl rfl rfl hc244) (by decide) body15 (ideal_Ideal_Seq_s _ _ _ h) rfl ?_
                          rintro _ H259 ⟨y260, rfl, h⟩
                          refine GoOps.q (v := .bool (y258 != y260)) (want_yes rfl rfl rfl hc244) rfl (by decide) (q_neq rfl rfl) ?_
                          refine GoOps.q (v := .bool (y258 != y260)) rfl rfl (by decide) (q_pickT (btT rfl hc244) rfl) ?_
                          exact hj246 (y258 != y260) _ _ h (by exact ⟨e198_0, e198_1, e198_5, e198_6, e198_7, e198_9, rfl⟩)
                        · have h := h.2 hc244
                          refine no_dst (want_no rfl rfl rfl hc244) rfl (by decide) ?_
                          refine no_dst (want_no rfl rfl rfl hc244) rfl (by decide) ?_
                          refine no_dst (want_no rfl rfl rfl hc244) rfl (by decide) ?_
                          refine no_dst (want_no rfl rfl rfl hc244) rfl (by decide) ?_
                          refine no_dst (want_no rfl rfl rfl hc244) rfl (by decide) ?_
                          refine GoOps.q (v := .bool false) rfl rfl (by decide) (q_pickF (btF rfl hc244) rfl) ?_
                          exact hj246 false _ _ h (by exact ⟨e198_0, e198_1, e198_5, e198_6, e198_7, e198_9, rfl⟩)
                  · intro j193 hj193 h
                    rcases bor (x190 == 3) with hc261 | hc261
                    · have h := h.1 hc261
                      refine Go.condT (btT rfl hc261) ?_
                      refine Go.region rfl ?_
                      refine GoOps.q (v := Sl.v s176.2.1) rfl rfl (by decide) (q_move e184_7) ?_
                      refine GoOps.q (v := Sl.v s176.2.1) rfl rfl (by decide) (q_assign rfl) ?_
                      refine GoOps.nil ?_
                      exact hj193 _ _ _ h ⟨e184_0, e184_1, e184_5, rfl, e184_9, e184_10⟩
                    · have h := h.2 hc261
                      refine Go.condF (btF rfl hc261) ?_
                      refine Go.skip ?_
                      exact hj193 _ _ _ h ⟨e184_0, e184_1, e184_5, e184_6, e184_9, e184_10⟩
              · intro j182 hj182 h
                refine Go.draw mixed ?_
                refine plan_pure (i := 0) (d := 49) (S2 := 1) (v := Sl.v p1) rfl (by decide +kernel) rfl (q_move e178_1) ?_
                refine plan_pure (i := 1) (d := 50) (S2 := 3) (v := .int .i64 s176.2.2) rfl (by decide +kernel) rfl (q_move e178_9) ?_
                obtain ⟨a262, ha263, h⟩ := h
                refine plan_pure (i := 2) (d := 51) (S2 := 7) (v := .pointer (some a262)) rfl (by decide +kernel) rfl (q_idx slice22 ha263 rfl rfl) ?_
                obtain ⟨x264, hx265, h⟩ := h
                refine plan_load (i := 3) (d := 52) (S2 := 15) (v := .int .i64 x264) rfl (by decide +kernel) rfl (q_load scalar3 rfl hx265) ?_
                refine plan_pure (i := 4) (d := 53) (S2 := 31) (v := .int .i64 p0) rfl (by decide +kernel) rfl (q_move e178_0) ?_
                refine plan_pure (i := 5) (d := 54) (S2 := 63) (v := .int .i64 s176.2.2) rfl (by decide +kernel) rfl (q_move e178_9) ?_
                refine plan_pure (i := 6) (d := 55) (S2 := 127) (v := .pointer y15) rfl (by decide +kernel) rfl (q_move e178_5) ?_
                refine plan_step (R := [7, 9]) (by decide +kernel) ⟨?_, ?_, trivial⟩
                · refine pstep_yes (S2 := 255) rfl (by decide +kernel) (by decide) rfl ?_
                  refine do_call2 body9 (ideal_Ideal_Epoch_s _ _ _ h) rfl ?_
                  rintro _ H266 ⟨y267, rfl, h⟩
                  obtain ⟨hr268, h⟩ := h
                  refine ⟨_, (.inr ⟨⟨_, _, rfl, rfl, q_load scalar3 rfl hr268⟩, _, rfl, rfl⟩), ?_⟩
                  refine plan_step (R := [8, 9]) (by decide +kernel) ⟨?_, ?_, trivial⟩
                  · refine pstep_yes (S2 := 511) rfl (by decide +kernel) (by decide) rfl ?_
                    refine do_call2 body8 (keelsonlaw24_op_s _ _ _ _ _ _ h) rfl ?_
                    rintro _ H269 ⟨y270, rfl, h⟩
                    refine ⟨_, (.inl ⟨⟨[8], by decide +kernel, rfl⟩, rfl⟩), ?_⟩
                    refine plan_one (j := 9) (S2 := 1023) (by decide +kernel) rfl (by decide) rfl ?_
                    refine do_new zero29 rfl fun a271 H272 hb273 => ?_
                    have h := h a271 H272 hb273
                    refine ⟨_, rfl, ?_⟩
                    refine plan_one (j := 10) (S2 := 2047) (by decide +kernel) rfl (by decide) rfl ?_
                    obtain ⟨q275b, q275o, q275c, q275e, hq275a, hq275b, hq275l, hq275v, h⟩ := h
                    refine do_store (vs := [.int .i64 y270.1, .int .i64 y270.2.1, .int .i64 y270.2.2.1, .int .i64 y270.2.2.2.1, Sl.v y270.2.2.2.2]) size29 (pta rfl hq275a) rfl rfl rfl hq275v hq275b hq275l ?_
                    refine ⟨_, rfl, ?_⟩
                    refine plan_done (by decide +kernel) ?_
                    exact hj182 _ _ _ h ⟨e178_0, e178_1, e178_5, e178_6, e178_7, e178_9, rfl⟩
                  · refine pstep_yes (S2 := 767) rfl (by decide +kernel) (by decide) rfl ?_
                    refine do_newT zero29 rfl fun b280 a279 hHb280 hTb280 hrb280 => ?_
                    refine ⟨_, (.inr ⟨⟨_, _, rfl, rfl, q_load scalar3 rfl hr268⟩, _, rfl, rfl⟩), ?_⟩
                    refine plan_one (j := 8) (S2 := 1023) (by decide +kernel) rfl (by decide) rfl ?_
                    refine do_call2 body8 (keelsonlaw24_op_s _ _ _ _ _ _ h) rfl ?_
                    rintro _ H281 ⟨y282, rfl, h⟩
                    refine ⟨_, (.inl ⟨⟨[8], by decide +kernel, rfl⟩, rfl⟩), ?_⟩
                    refine plan_commit hTb280 fun hh284 => ?_
                    have h := h a279 _ ⟨b280, hh284, hrb280, rfl⟩
                    refine plan_one (j := 10) (S2 := 2047) (by decide +kernel) rfl (by decide) rfl ?_
                    obtain ⟨q286b, q286o, q286c, q286e, hq286a, hq286b, hq286l, hq286v, h⟩ := h
                    refine do_store (vs := [.int .i64 y282.1, .int .i64 y282.2.1, .int .i64 y282.2.2.1, .int .i64 y282.2.2.2.1, Sl.v y282.2.2.2.2]) size29 (pta rfl hq286a) rfl rfl rfl hq286v hq286b hq286l ?_
                    refine ⟨_, rfl, ?_⟩
                    refine plan_done (by decide +kernel) ?_
                    exact hj182 _ _ _ h ⟨e178_0, e178_1, e178_5, e178_6, e178_7, e178_9, rfl⟩
                · refine pstep_yes (S2 := 639) rfl (by decide +kernel) (by decide) rfl ?_
                  refine do_newT zero29 rfl fun b291 a290 hHb291 hTb291 hrb291 => ?_
                  refine ⟨_, (.inr ⟨⟨_, _, rfl, rfl, q_load scalar3 rfl hx265⟩, _, rfl, rfl⟩), ?_⟩
                  refine plan_one (j := 7) (S2 := 767) (by decide +kernel) rfl (by decide) rfl ?_
                  refine do_call2 body9 (ideal_Ideal_Epoch_s _ _ _ h) rfl ?_
                  rintro _ H292 ⟨y293, rfl, h⟩
                  obtain ⟨hr294, h⟩ := h
                  refine ⟨_, (.inr ⟨⟨_, _, rfl, rfl, q_load scalar3 rfl hr294⟩, _, rfl, rfl⟩), ?_⟩
                  refine plan_one (j := 8) (S2 := 1023) (by decide +kernel) rfl (by decide) rfl ?_
                  refine do_call2 body8 (keelsonlaw24_op_s _ _ _ _ _ _ h) rfl ?_
                  rintro _ H295 ⟨y296, rfl, h⟩
                  refine ⟨_, (.inl ⟨⟨[8], by decide +kernel, rfl⟩, rfl⟩), ?_⟩
                  refine plan_commit hTb291 fun hh298 => ?_
                  have h := h a290 _ ⟨b291, hh298, hrb291, rfl⟩
                  refine plan_one (j := 10) (S2 := 2047) (by decide +kernel) rfl (by decide) rfl ?_
                  obtain ⟨q300b, q300o, q300c, q300e, hq300a, hq300b, hq300l, hq300v, h⟩ := h
                  refine do_store (vs := [.int .i64 y296.1, .int .i64 y296.2.1, .int .i64 y296.2.2.1, .int .i64 y296.2.2.2.1, Sl.v y296.2.2.2.2]) size29 (pta rfl hq300a) rfl rfl rfl hq300v hq300b hq300l ?_
                  refine ⟨_, rfl, ?_⟩
                  refine plan_done (by decide +kernel) ?_
                  exact hj182 _ _ _ h ⟨e178_0, e178_1, e178_5, e178_6, e178_7, e178_9, rfl⟩
            · have h := h.2 hc180
              refine Go.condF (btF rfl hc180) ?_
              refine Go.exit rfl ?_
              refine Go.seq ?_
              refine Go.region rfl ?_
              refine GoOps.q (v := .pointer y15) rfl rfl (by decide) (q_move e178_5) ?_
              refine call_dst rfl (by decide) body16 (ideal_Ideal_Forget_s _ _ _ h) rfl ?_
              rintro _ H301 ⟨rfl, h⟩
              refine GoOps.nil ?_
              refine Go.seq ?_
              refine Go.seq ?_
              refine Go.region rfl ?_
              refine GoOps.q (v := .int .i64 0) rfl rfl (by decide) (q_assign rfl) ?_
              refine GoOps.nil ?_
              refine Go.block ?_
              refine loop_go (fun ρ (s302 : Int) => ρ 0 = .int .i64 p0 ∧ ρ 5 = .pointer y15 ∧ ρ 6 = Sl.v s176.1 ∧ ρ 13 = .int .i64 s302) h ⟨e178_0, e178_5, e178_6, rfl⟩ ?_
              clear h
              intro ρ s302 H305 again303 hE h hagain303
              obtain ⟨e304_0, e304_5, e304_6, e304_13⟩ := hE
              refine Go.seq ?_
              refine Go.seq ?_
              refine Go.region rfl ?_
              refine GoOps.q (v := .int .i64 s302) rfl rfl (by decide) (q_move e304_13) ?_
              refine GoOps.q (v := .int .i64 p0) rfl rfl (by decide) (q_move e304_0) ?_
              refine GoOps.q (v := .bool (decide (s302 < p0))) rfl rfl (by decide) (q_lss rfl rfl) ?_
              refine GoOps.nil ?_
              rcases bor (decide (s302 < p0)) with hc306 | hc306
              · have h := h.1 hc306
                refine Go.condT (btT rfl hc306) ?_
                refine Go.skip ?_
                refine Go.seq ?_
                refine Go.block ?_
                refine Go.seq ?_
                refine Go.draw mixed ?_
                refine plan_pure (i := 0) (d := 132) (S2 := 1) (v := .pointer y15) rfl (by decide +kernel) rfl (q_move e304_5) ?_
                refine plan_pure (i := 1) (d := 133) (S2 := 3) (v := .int .i64 s302) rfl (by decide +kernel) rfl (q_move e304_13) ?_
                refine plan_pure (i := 3) (d := 135) (S2 := 11) (v := Sl.v s176.1) rfl (by decide +kernel) rfl (q_move e304_6) ?_
                refine plan_pure (i := 4) (d := 136) (S2 := 27) (v := .int .i64 s302) rfl (by decide +kernel) rfl (q_move e304_13) ?_
                obtain ⟨a307, ha308, h⟩ := h
                refine plan_pure (i := 5) (d := 137) (S2 := 59) (v := .pointer (some a307)) rfl (by decide +kernel) rfl (q_idx slice26 ha308 rfl rfl) ?_
                obtain ⟨x309, hx310, h⟩ := h
                refine plan_load (i := 6) (d := 138) (S2 := 123) (v := Sl.v x309) rfl (by decide +kernel) rfl (q_load scalar27 rfl hx310) ?_
                refine plan_one (j := 2) (S2 := 127) (by decide +kernel) rfl (by decide) rfl ?_
                refine do_call2 body11 (ideal_Ideal_Look_s _ _ _ _ h) rfl ?_
                rintro _ H311 ⟨y312, rfl, h⟩
                obtain ⟨hr313, h⟩ := h
                refine ⟨_, (.inr ⟨⟨_, _, rfl, rfl, q_load scalar27 rfl hr313⟩, _, rfl, rfl⟩), ?_⟩
                refine plan_one (j := 7) (S2 := 255) (by decide +kernel) rfl (by decide) rfl ?_
                refine do_call2 body12 (keelsonalike_Bytes_s _ _ _ _ h) rfl ?_
                rintro _ H314 ⟨y315, rfl, h⟩
                refine ⟨_, (.inl ⟨⟨[7], by decide +kernel, rfl⟩, rfl⟩), ?_⟩
                refine plan_pure (i := 8) (d := 140) (S2 := 511) (v := .bool (!y315)) rfl (by decide +kernel) rfl (q_not rfl) ?_
                refine plan_done (by decide +kernel) ?_
                rcases bor (!y315) with hc316 | hc316
                · have h := h.1 hc316
                  refine Go.condT (btT rfl hc316) ?_
                  refine Go.seq ?_
                  refine Go.region rfl ?_
                  refine GoOps.q (v := .bool false) rfl rfl (by decide) (q_assign rfl) ?_
                  refine GoOps.nil ?_
                  exact Go.ret ⟨.inl rfl, _, _, DOk.nil, (resOk1 Try.results3 rfl), ⟨_, rfl, h⟩⟩
                · have h := h.2 hc316
                  refine Go.condF (btF rfl hc316) ?_
                  refine Go.skip ?_
                  refine Go.inBlock ?_
                  refine Go.region rfl ?_
                  refine GoOps.q (v := .int .i64 s302) rfl rfl (by decide) (q_move e304_13) ?_
                  refine GoOps.q (v := .int .i64 (IntKind.wrap .i64 (s302 + 1))) rfl rfl (by decide) (q_add rfl rfl) ?_
                  refine GoOps.q (v := .int .i64 (IntKind.wrap .i64 (s302 + 1))) rfl rfl (by decide) (q_assign rfl) ?_
                  refine GoOps.nil ?_
                  exact hagain303 _ _ _ h ⟨e304_0, e304_5, e304_6, rfl⟩
              · have h := h.2 hc306
                refine Go.condF (btF rfl hc306) ?_
                refine Go.exit rfl ?_
                refine Go.seq ?_
                refine Go.region rfl ?_
                refine GoOps.q (v := .pointer y15) rfl rfl (by decide) (q_move e304_5) ?_
                refine call_dst rfl (by decide) body15 (ideal_Ideal_Seq_s _ _ _ h) rfl ?_
                rintro _ H317 ⟨y318, rfl, h⟩
                refine GoOps.q (v := .pointer y15) rfl rfl (by decide) (q_move e304_5) ?_
                refine call_dst rfl (by decide) body14 (ideal_Ideal_Done_s _ _ _ h) rfl ?_
                rintro _ H319 ⟨y320, rfl, h⟩
                refine GoOps.q (v := .bool (y318 == y320)) rfl rfl (by decide) (q_eql rfl rfl) ?_
                refine GoOps.q (v := .bool (y318 == y320)) rfl rfl (by decide) (q_move rfl) ?_
                refine join_ops 2 (fun ρ (s322 : Bool) => ρ 148 = .bool s322) h ?_ ?_ <;> clear h
                · intro s322 H324 ρ h hE
                  have e325_148 := hE
                  refine GoOps.q (v := .bool s322) rfl rfl (by decide) (q_assign e325_148) ?_
                  refine GoOps.nil ?_
                  exact Go.ret ⟨.inl rfl, _, _, DOk.nil, (resOk1 Try.results3 rfl), ⟨_, rfl, h⟩⟩
                · intro j323 hj323 h
                  rcases bor (y318 == y320) with hc321 | hc321
                  · have h := h.1 hc321
                    refine call_dst (want_yes rfl rfl rfl hc321) (by decide) body6 (keelsonlaw24_awake_s _ _ h) rfl ?_
                    rintro _ H326 ⟨y327, rfl, h⟩
                    refine GoOps.q (v := .bool y327) rfl rfl (by decide) (q_pickT (btT rfl hc321) rfl) ?_
                    exact hj323 y327 _ _ h (by exact rfl)
                  · have h := h.2 hc321
                    refine no_dst (want_no rfl rfl rfl hc321) rfl (by decide) ?_
                    refine GoOps.q (v := .bool false) rfl rfl (by decide) (q_pickF (btF rfl hc321) rfl) ?_
                    exact hj323 false _ _ h (by exact rfl)
    · intro j8 hj8 h
      rcases bor s2 with hc6 | hc6
      · have h := h.1 hc6
        refine no_dst (want_no rfl rfl rfl hc6) rfl (by decide) ?_
        refine no_dst (want_no rfl rfl rfl hc6) rfl (by decide) ?_
        refine no_dst (want_no rfl rfl rfl hc6) rfl (by decide) ?_
        refine GoOps.q (v := .bool true) rfl rfl (by decide) (q_pickT (btT rfl hc6) rfl) ?_
        exact hj8 true _ _ h (by exact ⟨e5_0, e5_1, rfl⟩)
      · have h := h.2 hc6
        refine GoOps.q (v := Sl.v p1) (want_yes rfl rfl rfl hc6) rfl (by decide) (q_move e5_1) ?_
        refine GoOps.q (v := .int .i64 (p1.len : Int)) (want_yes rfl rfl rfl hc6) rfl (by decide) (q_len Try.underlying22 rfl (ls1 rfl)) ?_
        refine GoOps.q (v := .bool (decide (60 < (p1.len : Int)))) (want_yes rfl rfl rfl hc6) rfl (by decide) (q_gtr rfl rfl) ?_
        refine GoOps.q (v := .bool (decide (60 < (p1.len : Int)))) rfl rfl (by decide) (q_pickF (btF rfl hc6) rfl) ?_
        exact hj8 (decide (60 < (p1.len : Int))) _ _ h (by exact ⟨e5_0, e5_1, rfl⟩)
  · intro j3 hj3 h
    rcases bor (decide (p0 < 1)) with hc1 | hc1
    · have h := h.1 hc1
      refine no_dst (want_no rfl rfl rfl hc1) rfl (by decide) ?_
      refine no_dst (want_no rfl rfl rfl hc1) rfl (by decide) ?_
      refine GoOps.q (v := .bool true) rfl rfl (by decide) (q_pickT (btT rfl hc1) rfl) ?_
      exact hj3 true _ _ h (by exact ⟨rfl, rfl, rfl⟩)
    · have h := h.2 hc1
      refine GoOps.q (v := .int .i64 p0) (want_yes rfl rfl rfl hc1) rfl (by decide) (q_move rfl) ?_
      refine GoOps.q (v := .bool (decide (64 < p0))) (want_yes rfl rfl rfl hc1) rfl (by decide) (q_gtr rfl rfl) ?_
      refine GoOps.q (v := .bool (decide (64 < p0))) rfl rfl (by decide) (q_pickF (btF rfl hc1) rfl) ?_
      exact hj3 (decide (64 < p0)) _ _ h (by exact ⟨rfl, rfl, rfl⟩)

/-- keelson.keelsonlaw24.few -/
def keelsonlaw24_few (p0 : Sl) (H : PH) (Q : Bool → PH → Prop) : Prop :=
  mLoop (fun (s1 : Int) (H4 : PH) (again2 : Int → PH → Prop) =>
  mIf (decide (s1 < (p0.len : Int)))
  (mIdx p0 5 s1 fun a6 =>
  mLd Sl.v H4 (a6.add 4) fun x8 =>
  mIf (decide (100 < (x8.len : Int)))
  (Q false H4)
  (again2 (IntKind.wrap .i64 (s1 + 1)) H4))
  (Q (decide ((p0.len : Int) ≤ 80)) H4))
  0 H

set_option maxRecDepth 20000 in
set_option maxHeartbeats 1000000 in
theorem keelsonlaw24_few_s (p0 : Sl) (H : PH) (Q : Bool → PH → Prop) (h : keelsonlaw24_few p0 H Q) :
    CallsH Try.prog 17 #[Sl.v p0] H (fun v H' => ∃ (r0 : Bool), v = .bool r0 ∧ Q r0 H') := by
  unfold keelsonlaw24_few at h
  refine callsH_of_go Try.func17 rfl Try.ntmps17 (Nat.le_of_ble_eq_true rfl) ?_
  refine Go.seq ?_
  refine Go.region rfl ?_
  refine GoOps.q (v := .bool false) rfl rfl (by decide) (q_assign rfl) ?_
  refine GoOps.nil ?_
  refine Go.seq ?_
  refine Go.seq ?_
  refine Go.region rfl ?_
  refine GoOps.q (v := .int .i64 0) rfl rfl (by decide) (q_assign rfl) ?_
  refine GoOps.nil ?_
  refine Go.block ?_
  refine loop_go (fun ρ (s1 : Int) => ρ 0 = Sl.v p0 ∧ ρ 3 = .int .i64 s1) h ⟨rfl, rfl⟩ ?_
  clear h
  intro ρ s1 H4 again2 hE h hagain2
  obtain ⟨e3_0, e3_3⟩ := hE
  refine Go.seq ?_
  refine Go.seq ?_
  refine Go.region rfl ?_
  refine GoOps.q (v := .int .i64 s1) rfl rfl (by decide) (q_move e3_3) ?_
  refine GoOps.q (v := Sl.v p0) rfl rfl (by decide) (q_move e3_0) ?_
  refine GoOps.q (v := .int .i64 (p0.len : Int)) rfl rfl (by decide) (q_len Try.underlying36 rfl (ls1 rfl)) ?_
  refine GoOps.q (v := .bool (decide (s1 < (p0.len : Int)))) rfl rfl (by decide) (q_lss rfl rfl) ?_
  refine GoOps.nil ?_
  rcases bor (decide (s1 < (p0.len : Int))) with hc5 | hc5
  · have h := h.1 hc5
    refine Go.condT (btT rfl hc5) ?_
    refine Go.skip ?_
    refine Go.seq ?_
    refine Go.block ?_
    refine Go.seq ?_
    refine Go.region rfl ?_
    refine GoOps.q (v := Sl.v p0) rfl rfl (by decide) (q_move e3_0) ?_
    refine GoOps.q (v := .int .i64 s1) rfl rfl (by decide) (q_move e3_3) ?_
    obtain ⟨a6, ha7, h⟩ := h
    refine GoOps.q (v := .pointer (some a6)) rfl rfl (by decide) (q_idx slice36 ha7 rfl rfl) ?_
    refine GoOps.q (v := .pointer (some (a6.add 4))) rfl rfl (by decide) (q_fieldAddr foff29_4 rfl) ?_
    obtain ⟨x8, hx9, h⟩ := h
    refine GoOps.q (v := Sl.v x8) rfl rfl (by decide) (q_load scalar27 rfl hx9) ?_
    refine GoOps.q (v := .int .i64 (x8.len : Int)) rfl rfl (by decide) (q_len Try.underlying27 rfl (ls1 rfl)) ?_
    refine GoOps.q (v := .bool (decide (100 < (x8.len : Int)))) rfl rfl (by decide) (q_gtr rfl rfl) ?_
    refine GoOps.nil ?_
    rcases bor (decide (100 < (x8.len : Int))) with hc10 | hc10
    · have h := h.1 hc10
      refine Go.condT (btT rfl hc10) ?_
      refine Go.seq ?_
      refine Go.region rfl ?_
      refine GoOps.q (v := .bool false) rfl rfl (by decide) (q_assign rfl) ?_
      refine GoOps.nil ?_
      exact Go.ret ⟨.inl rfl, _, _, DOk.nil, (resOk1 Try.results17 rfl), ⟨_, rfl, h⟩⟩
    · have h := h.2 hc10
      refine Go.condF (btF rfl hc10) ?_
      refine Go.skip ?_
      refine Go.inBlock ?_
      refine Go.region rfl ?_
      refine GoOps.q (v := .int .i64 s1) rfl rfl (by decide) (q_move e3_3) ?_
      refine GoOps.q (v := .int .i64 (IntKind.wrap .i64 (s1 + 1))) rfl rfl (by decide) (q_add rfl rfl) ?_
      refine GoOps.q (v := .int .i64 (IntKind.wrap .i64 (s1 + 1))) rfl rfl (by decide) (q_assign rfl) ?_
      refine GoOps.nil ?_
      exact hagain2 _ _ _ h ⟨e3_0, rfl⟩
  · have h := h.2 hc5
    refine Go.condF (btF rfl hc5) ?_
    refine Go.exit rfl ?_
    refine Go.seq ?_
    refine Go.region rfl ?_
    refine GoOps.q (v := Sl.v p0) rfl rfl (by decide) (q_move e3_0) ?_
    refine GoOps.q (v := .int .i64 (p0.len : Int)) rfl rfl (by decide) (q_len Try.underlying36 rfl (ls1 rfl)) ?_
    refine GoOps.q (v := .bool (decide ((p0.len : Int) ≤ 80))) rfl rfl (by decide) (q_leq rfl rfl) ?_
    refine GoOps.q (v := .bool (decide ((p0.len : Int) ≤ 80))) rfl rfl (by decide) (q_assign rfl) ?_
    refine GoOps.nil ?_
    exact Go.ret ⟨.inl rfl, _, _, DOk.nil, (resOk1 Try.results17 rfl), ⟨_, rfl, h⟩⟩

/-- keelson.keelsonref1.Within -/
def keelsonref1_Within (p0 : Int) (p1 : Int) (p2 : Int) (H : PH) (Q : Bool → PH → Prop) : Prop :=
  mJoin (fun (s2 : Bool) (H4 : PH) =>
  Q s2 H4)
  fun j3 =>
  mIf (decide (p1 ≤ p0))
  (j3 (decide (p0 ≤ p2)) H)
  (j3 false H)

set_option maxRecDepth 20000 in
set_option maxHeartbeats 1000000 in
theorem keelsonref1_Within_s (p0 : Int) (p1 : Int) (p2 : Int) (H : PH) (Q : Bool → PH → Prop) (h : keelsonref1_Within p0 p1 p2 H Q) :
    CallsH Try.prog 35 #[.int .i64 p0, .int .i64 p1, .int .i64 p2] H (fun v H' => ∃ (r0 : Bool), v = .bool r0 ∧ Q r0 H') := by
  unfold keelsonref1_Within at h
  refine callsH_of_go Try.func35 rfl Try.ntmps35 (Nat.le_of_ble_eq_true rfl) ?_
  refine Go.seq ?_
  refine Go.region rfl ?_
  refine GoOps.q (v := .bool false) rfl rfl (by decide) (q_assign rfl) ?_
  refine GoOps.nil ?_
  refine Go.seq ?_
  refine Go.region rfl ?_
  refine GoOps.q (v := .int .i64 p0) rfl rfl (by decide) (q_move rfl) ?_
  refine GoOps.q (v := .int .i64 p1) rfl rfl (by decide) (q_move rfl) ?_
  refine GoOps.q (v := .bool (decide (p1 ≤ p0))) rfl rfl (by decide) (q_geq rfl rfl) ?_
  refine GoOps.q (v := .bool (decide (p1 ≤ p0))) rfl rfl (by decide) (q_move rfl) ?_
  refine join_ops 4 (fun ρ (s2 : Bool) => ρ 14 = .bool s2) h ?_ ?_ <;> clear h
  · intro s2 H4 ρ h hE
    have e5_14 := hE
    refine GoOps.q (v := .bool s2) rfl rfl (by decide) (q_assign e5_14) ?_
    refine GoOps.nil ?_
    exact Go.ret ⟨.inl rfl, _, _, DOk.nil, (resOk1 Try.results35 rfl), ⟨_, rfl, h⟩⟩
  · intro j3 hj3 h
    rcases bor (decide (p1 ≤ p0)) with hc1 | hc1
    · have h := h.1 hc1
      refine GoOps.q (v := .int .i64 p0) (want_yes rfl rfl rfl hc1) rfl (by decide) (q_move rfl) ?_
      refine GoOps.q (v := .int .i64 p2) (want_yes rfl rfl rfl hc1) rfl (by decide) (q_move rfl) ?_
      refine GoOps.q (v := .bool (decide (p0 ≤ p2))) (want_yes rfl rfl rfl hc1) rfl (by decide) (q_leq rfl rfl) ?_
      refine GoOps.q (v := .bool (decide (p0 ≤ p2))) rfl rfl (by decide) (q_pickT (btT rfl hc1) rfl) ?_
      exact hj3 (decide (p0 ≤ p2)) _ _ h (by exact rfl)
    · have h := h.2 hc1
      refine no_dst (want_no rfl rfl rfl hc1) rfl (by decide) ?_
      refine no_dst (want_no rfl rfl rfl hc1) rfl (by decide) ?_
      refine no_dst (want_no rfl rfl rfl hc1) rfl (by decide) ?_
      refine GoOps.q (v := .bool false) rfl rfl (by decide) (q_pickF (btF rfl hc1) rfl) ?_
      exact hj3 false _ _ h (by exact rfl)

/-- keelson.keelsonref22.NewIdeal -/
def keelsonref22_NewIdeal (p0 : Int) (H : PH) (Q : Option Addr → PH → Prop) : Prop :=
  keelsonref1_Within p0 1 64 H fun y2 H1 =>
  mIf (!y2)
  (Q none H1)
  (mMk H1 27 24 [.slice none 0 0] p0 p0 fun r4 H5 =>
  mNew H5 (row [Sl.v Sl.nil, Sl.v r4, .int .i64 0, .int .i64 0, .int .i64 0] 41) fun a8 H9 =>
  mLoop (fun (s11 : Int) (H14 : PH) (again12 : Int → PH → Prop) =>
  mIf (decide (s11 < p0))
  (mLd Sl.v H14 (a8.add 0) fun x16 =>
  mBoth (MkOk 1 64 64) <|
  mNewSI H14 (row (zeros (64 : Int).toNat [.int .u8 0]) 5) 64 64 fun r19 H20 =>
  mSame H20 (a8.add 0) (Sl.v x16) <|
  mNewS H20 (row [Sl.v r19] 27) 1 fun r23 H24 =>
  mSame H24 (a8.add 0) (Sl.v x16) <|
  mApp H24 27 1 24 [.slice none 0 0] x16 r23 fun r27 H28 =>
  mSt H28 (a8.add 0) ([Sl.v r27]) fun H29 =>
  again12 (IntKind.wrap .i64 (s11 + 1)) H29)
  (Q (some a8) H14))
  0 H9)

set_option maxRecDepth 20000 in
set_option maxHeartbeats 1000000 in
theorem keelsonref22_NewIdeal_s (p0 : Int) (H : PH) (Q : Option Addr → PH → Prop) (h : keelsonref22_NewIdeal p0 H Q) :
    CallsH Try.prog 18 #[.int .i64 p0] H (fun v H' => ∃ (r0 : Option Addr), v = .pointer r0 ∧ Q r0 H') := by
  unfold keelsonref22_NewIdeal at h
  refine callsH_of_go Try.func18 rfl Try.ntmps18 (Nat.le_of_ble_eq_true rfl) ?_
  refine Go.seq ?_
  refine Go.region rfl ?_
  refine GoOps.q (v := .pointer none) rfl rfl (by decide) (q_assign rfl) ?_
  refine GoOps.nil ?_
  refine Go.seq ?_
  refine Go.seq ?_
  refine Go.region rfl ?_
  refine GoOps.q (v := .int .i64 p0) rfl rfl (by decide) (q_move rfl) ?_
  refine call_dst rfl (by decide) body35 (keelsonref1_Within_s _ _ _ _ _ h) rfl ?_
  rintro _ H1 ⟨y2, rfl, h⟩
  refine GoOps.q (v := .bool (!y2)) rfl rfl (by decide) (q_not rfl) ?_
  refine GoOps.nil ?_
  rcases bor (!y2) with hc3 | hc3
  · have h := h.1 hc3
    refine Go.condT (btT rfl hc3) ?_
    refine Go.seq ?_
    refine Go.region rfl ?_
    refine GoOps.q (v := .pointer none) rfl rfl (by decide) (q_assign rfl) ?_
    refine GoOps.nil ?_
    exact Go.ret ⟨.inl rfl, _, _, DOk.nil, (resOk1 Try.results18 rfl), ⟨_, rfl, h⟩⟩
  · have h := h.2 hc3
    refine Go.condF (btF rfl hc3) ?_
    refine Go.skip ?_
    refine Go.seq ?_
    refine Go.region rfl ?_
    refine GoOps.q (v := .int .i64 p0) rfl rfl (by decide) (q_move rfl) ?_
    obtain ⟨hm7, h⟩ := h
    refine op_dst rfl rfl (by decide) (do_mk (zs := [.slice none 0 0]) slice26 bytes27 (by decide) zero27 rfl rfl (by decide) rfl rfl hm7 fun r4 H5 hb6 => ?_) 
    have h := h r4 H5 hb6
    refine GoOps.q (v := .agg ([Sl.v Sl.nil, Sl.v r4, .int .i64 0, .int .i64 0, .int .i64 0] : List Value).toArray) rfl rfl (by decide) (q_build (ps := [(1, Sl.v r4)]) (cs := [Sl.v Sl.nil, Sl.v r4, .int .i64 0, .int .i64 0, .int .i64 0]) places41 zero41 rfl rfl rfl) ?_
    refine op_dst rfl rfl (by decide) (do_newBox (cs := [Sl.v Sl.nil, Sl.v r4, .int .i64 0, .int .i64 0, .int .i64 0]) rfl rfl fun a8 H9 hb10 => ?_) 
    have h := h a8 H9 hb10
    refine GoOps.q (v := .pointer (some a8)) rfl rfl (by decide) (q_assign rfl) ?_
    refine GoOps.nil ?_
    refine Go.seq ?_
    refine Go.seq ?_
    refine Go.region rfl ?_
    refine GoOps.q (v := .int .i64 0) rfl rfl (by decide) (q_assign rfl) ?_
    refine GoOps.nil ?_
    refine Go.block ?_
    refine loop_go (fun ρ (s11 : Int) => ρ 0 = .int .i64 p0 ∧ ρ 3 = .pointer (some a8) ∧ ρ 4 = .int .i64 s11) h ⟨rfl, rfl, rfl⟩ ?_
    clear h
    intro ρ s11 H14 again12 hE h hagain12
    obtain ⟨e13_0, e13_3, e13_4⟩ := hE
    refine Go.seq ?_
    refine Go.seq ?_
    refine Go.region rfl ?_
    refine GoOps.q (v := .int .i64 s11) rfl rfl (by decide) (q_move e13_4) ?_
    refine GoOps.q (v := .int .i64 p0) rfl rfl (by decide) (q_move e13_0) ?_
    refine GoOps.q (v := .bool (decide (s11 < p0))) rfl rfl (by decide) (q_lss rfl rfl) ?_
    refine GoOps.nil ?_
    rcases bor (decide (s11 < p0)) with hc15 | hc15
    · have h := h.1 hc15
      refine Go.condT (btT rfl hc15) ?_
      refine Go.skip ?_
      refine Go.seq ?_
      refine Go.block ?_
      refine Go.draw mixed ?_
      refine plan_pure (i := 0) (d := 17) (S2 := 1) (v := .pointer (some a8)) rfl (by decide +kernel) rfl (q_move e13_3) ?_
      refine plan_pure (i := 1) (d := 18) (S2 := 3) (v := .pointer (some a8)) rfl (by decide +kernel) rfl (q_move e13_3) ?_
      refine plan_pure (i := 2) (d := 19) (S2 := 7) (v := .pointer (some a8)) rfl (by decide +kernel) rfl (q_nilCheck rfl) ?_
      refine plan_pure (i := 3) (d := 20) (S2 := 15) (v := .pointer (some (a8.add 0))) rfl (by decide +kernel) rfl (q_fieldAddr foff41_0 rfl) ?_
      obtain ⟨x16, hx17, h⟩ := h
      refine plan_load (i := 4) (d := 21) (S2 := 31) (v := Sl.v x16) rfl (by decide +kernel) rfl (q_load scalar26 rfl hx17) ?_
      obtain ⟨hm18, h⟩ := h
      refine plan_one (j := 5) (S2 := 63) (by decide +kernel) rfl (by decide) rfl ?_
      refine do_mk (zs := [.int .u8 0]) slice27 bytes5 (by decide) zero5 rfl rfl (by decide) rfl rfl hm18 fun r19 H20 hb21 => ?_
      have h := h r19 H20 hb21
      obtain ⟨hr22, h⟩ := h
      refine ⟨_, (.inr ⟨⟨_, _, rfl, rfl, q_load scalar26 rfl hr22⟩, _, rfl, rfl⟩), ?_⟩
      refine plan_one (j := 6) (S2 := 127) (by decide +kernel) rfl (by decide) rfl ?_
      refine do_bs (ps := [(0, Sl.v r19)]) (zs := [.slice none 0 0]) (cs := [Sl.v r19]) slice26 zero27 rfl rfl (by decide) (by decide) rfl rfl fun r23 H24 hb25 => ?_
      have h := h r23 H24 hb25
      obtain ⟨hr26, h⟩ := h
      refine ⟨_, (.inr ⟨⟨_, _, rfl, rfl, q_load scalar26 rfl hr26⟩, _, rfl, rfl⟩), ?_⟩
      refine plan_one (j := 7) (S2 := 255) (by decide +kernel) rfl (by decide) rfl ?_
      refine do_append (zs := [.slice none 0 0]) slice26 bytes27 (by decide) zero27 rfl rfl (by decide) rfl rfl Try.underlying26 rfl h fun r27 H28 h => ?_
      refine ⟨_, (.inl ⟨⟨[7], by decide +kernel, rfl⟩, rfl⟩), ?_⟩
      refine plan_pure (i := 8) (d := 25) (S2 := 511) (v := .pointer (some a8)) rfl (by decide +kernel) rfl (q_nilCheck rfl) ?_
      refine plan_pure (i := 9) (d := 26) (S2 := 1023) (v := .pointer (some (a8.add 0))) rfl (by decide +kernel) rfl (q_fieldAddr foff41_0 rfl) ?_
      refine plan_one (j := 10) (S2 := 2047) (by decide +kernel) rfl (by decide) rfl ?_
      obtain ⟨q30b, q30o, q30c, q30e, hq30a, hq30b, hq30l, hq30v, h⟩ := h
      refine do_store (vs := [Sl.v r27]) size26 (pta rfl hq30a) rfl rfl rfl hq30v hq30b hq30l ?_
      refine ⟨_, rfl, ?_⟩
      refine plan_done (by decide +kernel) ?_
      refine Go.inBlock ?_
      refine Go.region rfl ?_
      refine GoOps.q (v := .int .i64 s11) rfl rfl (by decide) (q_move e13_4) ?_
      refine GoOps.q (v := .int .i64 (IntKind.wrap .i64 (s11 + 1))) rfl rfl (by decide) (q_add rfl rfl) ?_
      refine GoOps.q (v := .int .i64 (IntKind.wrap .i64 (s11 + 1))) rfl rfl (by decide) (q_assign rfl) ?_
      refine GoOps.nil ?_
      exact hagain12 _ _ _ h ⟨e13_0, e13_3, rfl⟩
    · have h := h.2 hc15
      refine Go.condF (btF rfl hc15) ?_
      refine Go.exit rfl ?_
      refine Go.seq ?_
      refine Go.region rfl ?_
      refine GoOps.q (v := .pointer (some a8)) rfl rfl (by decide) (q_move e13_3) ?_
      refine GoOps.q (v := .pointer (some a8)) rfl rfl (by decide) (q_assign rfl) ?_
      refine GoOps.nil ?_
      exact Go.ret ⟨.inl rfl, _, _, DOk.nil, (resOk1 Try.results18 rfl), ⟨_, rfl, h⟩⟩

/-- (*keelson.keelsonref22.Ideal).Forget -/
def keelsonref22_Ideal_Forget (p0 : Option Addr) (H : PH) (Q : PH → Prop) : Prop :=
  mNil p0 fun a1 =>
  mLd Sl.v H (a1.add 1) fun x3 =>
  mMk H 27 24 [.slice none 0 0] (x3.len : Int) (x3.len : Int) fun r5 H6 =>
  mNil p0 fun a9 =>
  mSt H6 (a9.add 1) ([Sl.v r5]) fun H11 =>
  mNil p0 fun a13 =>
  mLd (.int .i64) H11 (a13.add 4) fun x15 =>
  mNil p0 fun a17 =>
  mSt H11 (a17.add 3) ([.int .i64 x15]) fun H19 =>
  Q H19

set_option maxRecDepth 20000 in
set_option maxHeartbeats 1000000 in
theorem keelsonref22_Ideal_Forget_s (p0 : Option Addr) (H : PH) (Q : PH → Prop) (h : keelsonref22_Ideal_Forget p0 H Q) :
    CallsH Try.prog 19 #[.pointer p0] H (fun v H' => v = .tuple #[] ∧ Q H') := by
  unfold keelsonref22_Ideal_Forget at h
  refine callsH_of_go Try.func19 rfl Try.ntmps19 (Nat.le_of_ble_eq_true rfl) ?_
  refine Go.seq ?_
  refine Go.region rfl ?_
  refine GoOps.q (v := .pointer p0) rfl rfl (by decide) (q_move rfl) ?_
  refine GoOps.q (v := .pointer p0) rfl rfl (by decide) (q_move rfl) ?_
  obtain ⟨a1, ha2, h⟩ := h
  refine GoOps.q (v := .pointer (some a1)) rfl rfl (by decide) (q_nilCheck (ptn rfl ha2)) ?_
  refine GoOps.q (v := .pointer (some (a1.add 1))) rfl rfl (by decide) (q_fieldAddr foff41_1 rfl) ?_
  obtain ⟨x3, hx4, h⟩ := h
  refine GoOps.q (v := Sl.v x3) rfl rfl (by decide) (q_load scalar26 rfl hx4) ?_
  refine GoOps.q (v := .int .i64 (x3.len : Int)) rfl rfl (by decide) (q_len Try.underlying26 rfl (ls1 rfl)) ?_
  obtain ⟨hm8, h⟩ := h
  refine op_dst rfl rfl (by decide) (do_mk (zs := [.slice none 0 0]) slice26 bytes27 (by decide) zero27 rfl rfl (by decide) rfl rfl hm8 fun r5 H6 hb7 => ?_) 
  have h := h r5 H6 hb7
  obtain ⟨a9, ha10, h⟩ := h
  refine GoOps.q (v := .pointer (some a9)) rfl rfl (by decide) (q_nilCheck (ptn rfl ha10)) ?_
  refine GoOps.q (v := .pointer (some (a9.add 1))) rfl rfl (by decide) (q_fieldAddr foff41_1 rfl) ?_
  obtain ⟨q12b, q12o, q12c, q12e, hq12a, hq12b, hq12l, hq12v, h⟩ := h
  refine op_none rfl rfl (do_store (vs := [Sl.v r5]) size26 (pta rfl hq12a) rfl rfl rfl hq12v hq12b hq12l ?_) 
  refine GoOps.nil ?_
  refine Go.region rfl ?_
  refine GoOps.q (v := .pointer p0) rfl rfl (by decide) (q_move rfl) ?_
  refine GoOps.q (v := .pointer p0) rfl rfl (by decide) (q_move rfl) ?_
  obtain ⟨a13, ha14, h⟩ := h
  refine GoOps.q (v := .pointer (some a13)) rfl rfl (by decide) (q_nilCheck (ptn rfl ha14)) ?_
  refine GoOps.q (v := .pointer (some (a13.add 4))) rfl rfl (by decide) (q_fieldAddr foff41_4 rfl) ?_
  obtain ⟨x15, hx16, h⟩ := h
  refine GoOps.q (v := .int .i64 x15) rfl rfl (by decide) (q_load scalar3 rfl hx16) ?_
  obtain ⟨a17, ha18, h⟩ := h
  refine GoOps.q (v := .pointer (some a17)) rfl rfl (by decide) (q_nilCheck (ptn rfl ha18)) ?_
  refine GoOps.q (v := .pointer (some (a17.add 3))) rfl rfl (by decide) (q_fieldAddr foff41_3 rfl) ?_
  obtain ⟨q20b, q20o, q20c, q20e, hq20a, hq20b, hq20l, hq20v, h⟩ := h
  refine op_none rfl rfl (do_store (vs := [.int .i64 x15]) size3 (pta rfl hq20a) rfl rfl rfl hq20v hq20b hq20l ?_) 
  refine GoOps.nil ?_
  exact Go.fall ⟨.inr rfl, _, _, DOk.nil, (resOk0 Try.results19), ⟨rfl, h⟩⟩

/-- (*keelson.keelsonref22.Ideal).IdealMay -/
def keelsonref22_Ideal_IdealMay (p0 : Option Addr) (p1 : (Int × Int × Int × Int × Sl)) (H : PH) (Q : Bool → PH → Prop) : Prop :=
  mNew H (row [.int .i64 p1.1, .int .i64 p1.2.1, .int .i64 p1.2.2.1, .int .i64 p1.2.2.2.1, Sl.v p1.2.2.2.2] 29) fun a1 H2 =>
  mNil p0 fun a4 =>
  mLd Sl.v H2 (a4.add 0) fun x6 =>
  mLd (.int .i64) H2 (a1.add 0) fun x8 =>
  mJoin (fun (s10 : Bool) (H12 : PH) =>
  mIf s10
  (mLd (.int .i64) H12 (a1.add 1) fun x15 =>
  keelsonref1_Within x15 0 (IntKind.wrap .i64 ((x6.len : Int) - 1)) H12 fun y18 H17 =>
  mJoin (fun (s20 : Bool) (H22 : PH) =>
  mJoin (fun (s25 : Bool) (H27 : PH) =>
  mJoin (fun (s30 : Bool) (H32 : PH) =>
  Q s30 H32)
  fun j31 =>
  mIf s25
  (mLd Sl.v H27 (a1.add 4) fun x34 =>
  j31 ((x34.len : Int) == 64) H27)
  (j31 false H27))
  fun j26 =>
  mIf s20
  (mLd (.int .i64) H22 (a1.add 3) fun x36 =>
  j26 (x36 == 0) H22)
  (j26 false H22))
  fun j21 =>
  mIf y18
  (mLd (.int .i64) H17 (a1.add 2) fun x38 =>
  j21 (x38 == 0) H17)
  (j21 false H17))
  (mJoin (fun (s40 : Bool) (H42 : PH) =>
  mIf s40
  (mLd (.int .i64) H42 (a1.add 1) fun x45 =>
  keelsonref1_Within x45 0 (IntKind.wrap .i64 ((x6.len : Int) - 1)) H42 fun y48 H47 =>
  mJoin (fun (s50 : Bool) (H52 : PH) =>
  mJoin (fun (s55 : Bool) (H57 : PH) =>
  mJoin (fun (s60 : Bool) (H62 : PH) =>
  Q s60 H62)
  fun j61 =>
  mIf s55
  (mLd Sl.v H57 (a1.add 4) fun x64 =>
  j61 ((x64.len : Int) == 0) H57)
  (j61 false H57))
  fun j56 =>
  mIf s50
  (mLd (.int .i64) H52 (a1.add 3) fun x66 =>
  j56 (x66 == 0) H52)
  (j56 false H52))
  fun j51 =>
  mIf y48
  (mLd (.int .i64) H47 (a1.add 2) fun x68 =>
  mLd (.int .i64) H47 (a1.add 1) fun x70 =>
  keelsonref1_Within x68 1 (IntKind.wrap .i64 ((x6.len : Int) - x70)) H47 fun y73 H72 =>
  j51 y73 H72)
  (j51 false H47))
  (mIf (x8 == 3)
  (mLd (.int .i64) H42 (a1.add 1) fun x75 =>
  mJoin (fun (s78 : Bool) (H80 : PH) =>
  mJoin (fun (s83 : Bool) (H85 : PH) =>
  mJoin (fun (s88 : Bool) (H90 : PH) =>
  Q s88 H90)
  fun j89 =>
  mIf s83
  (mLd Sl.v H85 (a1.add 4) fun x92 =>
  j89 ((x92.len : Int) == 0) H85)
  (j89 false H85))
  fun j84 =>
  mIf s78
  (mLd (.int .i64) H80 (a1.add 3) fun x94 =>
  mNil p0 fun a96 =>
  mLd (.int .i64) H80 (a96.add 2) fun x98 =>
  j84 (x94 == (IntKind.wrap .i64 (x98 + 1))) H80)
  (j84 false H80))
  fun j79 =>
  mIf (x75 == 0)
  (mLd (.int .i64) H42 (a1.add 2) fun x100 =>
  j79 (x100 == 0) H42)
  (j79 false H42))
  (Q false H42)))
  fun j41 =>
  mIf (x8 == 2)
  (j41 (x8 == 2) H12)
  (j41 (x8 == 6) H12)))
  fun j11 =>
  mIf (x8 == 1)
  (j11 (x8 == 1) H2)
  (j11 (x8 == 5) H2)

set_option maxRecDepth 20000 in
set_option maxHeartbeats 1000000 in
theorem keelsonref22_Ideal_IdealMay_s (p0 : Option Addr) (p1 : (Int × Int × Int × Int × Sl)) (H : PH) (Q : Bool → PH → Prop) (h : keelsonref22_Ideal_IdealMay p0 p1 H Q) :
    CallsH Try.prog 36 #[.pointer p0, .agg ([.int .i64 p1.1, .int .i64 p1.2.1, .int .i64 p1.2.2.1, .int .i64 p1.2.2.2.1, Sl.v p1.2.2.2.2] : List Value).toArray] H (fun v H' => ∃ (r0 : Bool), v = .bool r0 ∧ Q r0 H') := by
  unfold keelsonref22_Ideal_IdealMay at h
  refine callsH_of_go Try.func36 rfl Try.ntmps36 (Nat.le_of_ble_eq_true rfl) ?_
  refine Go.seq ?_
  refine Go.region rfl ?_
  refine op_dst rfl rfl (by decide) (do_newBox (cs := [.int .i64 p1.1, .int .i64 p1.2.1, .int .i64 p1.2.2.1, .int .i64 p1.2.2.2.1, Sl.v p1.2.2.2.2]) rfl rfl fun a1 H2 hb3 => ?_) 
  have h := h a1 H2 hb3
  refine GoOps.q (v := .bool false) rfl rfl (by decide) (q_assign rfl) ?_
  refine GoOps.nil ?_
  refine Go.seq ?_
  refine Go.region rfl ?_
  refine GoOps.q (v := .pointer p0) rfl rfl (by decide) (q_move rfl) ?_
  obtain ⟨a4, ha5, h⟩ := h
  refine GoOps.q (v := .pointer (some a4)) rfl rfl (by decide) (q_nilCheck (ptn rfl ha5)) ?_
  refine GoOps.q (v := .pointer (some (a4.add 0))) rfl rfl (by decide) (q_fieldAddr foff41_0 rfl) ?_
  obtain ⟨x6, hx7, h⟩ := h
  refine GoOps.q (v := Sl.v x6) rfl rfl (by decide) (q_load scalar26 rfl hx7) ?_
  refine GoOps.q (v := .int .i64 (x6.len : Int)) rfl rfl (by decide) (q_len Try.underlying26 rfl (ls1 rfl)) ?_
  refine GoOps.q (v := .int .i64 (x6.len : Int)) rfl rfl (by decide) (q_assign rfl) ?_
  refine GoOps.nil ?_
  refine Go.seq ?_
  refine Go.seq ?_
  refine Go.region rfl ?_
  refine GoOps.q (v := .pointer (some (a1.add 0))) rfl rfl (by decide) (q_fieldAddr foff29_0 rfl) ?_
  obtain ⟨x8, hx9, h⟩ := h
  refine GoOps.q (v := .int .i64 x8) rfl rfl (by decide) (q_load scalar3 rfl hx9) ?_
  refine GoOps.nil ?_
  refine Go.block ?_
  refine Go.seq ?_
  refine Go.seq ?_
  refine Go.region rfl ?_
  refine GoOps.q (v := .bool (x8 == 1)) rfl rfl (by decide) (q_eql rfl rfl) ?_
  refine GoOps.q (v := .bool (x8 == 1)) rfl rfl (by decide) (q_assign rfl) ?_
  refine GoOps.nil ?_
  refine join_go 1 (fun ρ (s10 : Bool) => ρ 0 = .pointer p0 ∧ ρ 3 = .pointer (some a1) ∧ ρ 5 = .int .i64 (x6.len : Int) ∧ ρ 12 = .int .i64 x8 ∧ ρ 13 = .bool s10) h ?_ ?_ <;> clear h
  · intro s10 H12 ρ h hE
    obtain ⟨e13_0, e13_3, e13_5, e13_12, e13_13⟩ := hE
    rcases bor s10 with hc14 | hc14
    · have h := h.1 hc14
      refine Go.condT (btT e13_13 hc14) ?_
      refine Go.seq ?_
      refine Go.region rfl ?_
      refine GoOps.q (v := .pointer (some (a1.add 1))) rfl rfl (by decide) (q_fieldAddr foff29_1 e13_3) ?_
      obtain ⟨x15, hx16, h⟩ := h
      refine GoOps.q (v := .int .i64 x15) rfl rfl (by decide) (q_load scalar3 rfl hx16) ?_
      refine GoOps.q (v := .int .i64 (x6.len : Int)) rfl rfl (by decide) (q_move e13_5) ?_
      refine GoOps.q (v := .int .i64 (IntKind.wrap .i64 ((x6.len : Int) - 1))) rfl rfl (by decide) (q_sub rfl rfl) ?_
      refine call_dst rfl (by decide) body35 (keelsonref1_Within_s _ _ _ _ _ h) rfl ?_
      rintro _ H17 ⟨y18, rfl, h⟩
      refine GoOps.q (v := .bool y18) rfl rfl (by decide) (q_move rfl) ?_
      refine join_ops 4 (fun ρ (s20 : Bool) => ρ 3 = .pointer (some a1) ∧ ρ 25 = .bool s20) h ?_ ?_ <;> clear h
      · intro s20 H22 ρ h hE
        obtain ⟨e23_3, e23_25⟩ := hE
        refine GoOps.q (v := .bool s20) rfl rfl (by decide) (q_move e23_25) ?_
        refine join_ops 4 (fun ρ (s25 : Bool) => ρ 3 = .pointer (some a1) ∧ ρ 30 = .bool s25) h ?_ ?_ <;> clear h
        · intro s25 H27 ρ h hE
          obtain ⟨e28_3, e28_30⟩ := hE
          refine GoOps.q (v := .bool s25) rfl rfl (by decide) (q_move e28_30) ?_
          refine join_ops 5 (fun ρ (s30 : Bool) => ρ 36 = .bool s30) h ?_ ?_ <;> clear h
          · intro s30 H32 ρ h hE
            have e33_36 := hE
            refine GoOps.q (v := .bool s30) rfl rfl (by decide) (q_assign e33_36) ?_
            refine GoOps.nil ?_
            exact Go.ret ⟨.inl rfl, _, _, DOk.nil, (resOk1 Try.results36 rfl), ⟨_, rfl, h⟩⟩
          · intro j31 hj31 h
            rcases bor s25 with hc29 | hc29
            · have h := h.1 hc29
              refine GoOps.q (v := .pointer (some (a1.add 4))) (want_yes rfl rfl rfl hc29) rfl (by decide) (q_fieldAddr foff29_4 e28_3) ?_
              obtain ⟨x34, hx35, h⟩ := h
              refine GoOps.q (v := Sl.v x34) (want_yes rfl rfl rfl hc29) rfl (by decide) (q_load scalar27 rfl hx35) ?_
              refine GoOps.q (v := .int .i64 (x34.len : Int)) (want_yes rfl rfl rfl hc29) rfl (by decide) (q_len Try.underlying27 rfl (ls1 rfl)) ?_
              refine GoOps.q (v := .bool ((x34.len : Int) == 64)) (want_yes rfl rfl rfl hc29) rfl (by decide) (q_eql rfl rfl) ?_
              refine GoOps.q (v := .bool ((x34.len : Int) == 64)) rfl rfl (by decide) (q_pickT (btT rfl hc29) rfl) ?_
              exact hj31 ((x34.len : Int) == 64) _ _ h (by exact rfl)
            · have h := h.2 hc29
              refine no_dst (want_no rfl rfl rfl hc29) rfl (by decide) ?_
              refine no_dst (want_no rfl rfl rfl hc29) rfl (by decide) ?_
              refine no_dst (want_no rfl rfl rfl hc29) rfl (by decide) ?_
              refine no_dst (want_no rfl rfl rfl hc29) rfl (by decide) ?_
              refine GoOps.q (v := .bool false) rfl rfl (by decide) (q_pickF (btF rfl hc29) rfl) ?_
              exact hj31 false _ _ h (by exact rfl)
        · intro j26 hj26 h
          rcases bor s20 with hc24 | hc24
          · have h := h.1 hc24
            refine GoOps.q (v := .pointer (some (a1.add 3))) (want_yes rfl rfl rfl hc24) rfl (by decide) (q_fieldAddr foff29_3 e23_3) ?_
            obtain ⟨x36, hx37, h⟩ := h
            refine GoOps.q (v := .int .i64 x36) (want_yes rfl rfl rfl hc24) rfl (by decide) (q_load scalar3 rfl hx37) ?_
            refine GoOps.q (v := .bool (x36 == 0)) (want_yes rfl rfl rfl hc24) rfl (by decide) (q_eql rfl rfl) ?_
            refine GoOps.q (v := .bool (x36 == 0)) rfl rfl (by decide) (q_pickT (btT rfl hc24) rfl) ?_
            exact hj26 (x36 == 0) _ _ h (by exact ⟨e23_3, rfl⟩)
          · have h := h.2 hc24
            refine no_dst (want_no rfl rfl rfl hc24) rfl (by decide) ?_
            refine no_dst (want_no rfl rfl rfl hc24) rfl (by decide) ?_
            refine no_dst (want_no rfl rfl rfl hc24) rfl (by decide) ?_
            refine GoOps.q (v := .bool false) rfl rfl (by decide) (q_pickF (btF rfl hc24) rfl) ?_
            exact hj26 false _ _ h (by exact ⟨e23_3, rfl⟩)
      · intro j21 hj21 h
        rcases bor y18 with hc19 | hc19
        · have h := h.1 hc19
          refine GoOps.q (v := .pointer (some (a1.add 2))) (want_yes rfl rfl rfl hc19) rfl (by decide) (q_fieldAddr foff29_2 e13_3) ?_
          obtain ⟨x38, hx39, h⟩ := h
          refine GoOps.q (v := .int .i64 x38) (want_yes rfl rfl rfl hc19) rfl (by decide) (q_load scalar3 rfl hx39) ?_
          refine GoOps.q (v := .bool (x38 == 0)) (want_yes rfl rfl rfl hc19) rfl (by decide) (q_eql rfl rfl) ?_
          refine GoOps.q (v := .bool (x38 == 0)) rfl rfl (by decide) (q_pickT (btT rfl hc19) rfl) ?_
          exact hj21 (x38 == 0) _ _ h (by exact ⟨e13_3, rfl⟩)
        · have h := h.2 hc19
          refine no_dst (want_no rfl rfl rfl hc19) rfl (by decide) ?_
          refine no_dst (want_no rfl rfl rfl hc19) rfl (by decide) ?_
          refine no_dst (want_no rfl rfl rfl hc19) rfl (by decide) ?_
          refine GoOps.q (v := .bool false) rfl rfl (by decide) (q_pickF (btF rfl hc19) rfl) ?_
          exact hj21 false _ _ h (by exact ⟨e13_3, rfl⟩)
    · have h := h.2 hc14
      refine Go.condF (btF e13_13 hc14) ?_
      refine Go.seq ?_
      refine Go.seq ?_
      refine Go.region rfl ?_
      refine GoOps.q (v := .bool (x8 == 2)) rfl rfl (by decide) (q_eql e13_12 rfl) ?_
      refine GoOps.q (v := .bool (x8 == 2)) rfl rfl (by decide) (q_assign rfl) ?_
      refine GoOps.nil ?_
      refine join_go 1 (fun ρ (s40 : Bool) => ρ 0 = .pointer p0 ∧ ρ 3 = .pointer (some a1) ∧ ρ 5 = .int .i64 (x6.len : Int) ∧ ρ 12 = .int .i64 x8 ∧ ρ 37 = .bool s40) h ?_ ?_ <;> clear h
      · intro s40 H42 ρ h hE
        obtain ⟨e43_0, e43_3, e43_5, e43_12, e43_37⟩ := hE
        rcases bor s40 with hc44 | hc44
        · have h := h.1 hc44
          refine Go.condT (btT e43_37 hc44) ?_
          refine Go.seq ?_
          refine Go.region rfl ?_
          refine GoOps.q (v := .pointer (some (a1.add 1))) rfl rfl (by decide) (q_fieldAddr foff29_1 e43_3) ?_
          obtain ⟨x45, hx46, h⟩ := h
          refine GoOps.q (v := .int .i64 x45) rfl rfl (by decide) (q_load scalar3 rfl hx46) ?_
          refine GoOps.q (v := .int .i64 (x6.len : Int)) rfl rfl (by decide) (q_move e43_5) ?_
          refine GoOps.q (v := .int .i64 (IntKind.wrap .i64 ((x6.len : Int) - 1))) rfl rfl (by decide) (q_sub rfl rfl) ?_
          refine call_dst rfl (by decide) body35 (keelsonref1_Within_s _ _ _ _ _ h) rfl ?_
          rintro _ H47 ⟨y48, rfl, h⟩
          refine GoOps.q (v := .bool y48) rfl rfl (by decide) (q_move rfl) ?_
          refine join_ops 8 (fun ρ (s50 : Bool) => ρ 3 = .pointer (some a1) ∧ ρ 53 = .bool s50) h ?_ ?_ <;> clear h
          · intro s50 H52 ρ h hE
            obtain ⟨e53_3, e53_53⟩ := hE
            refine GoOps.q (v := .bool s50) rfl rfl (by decide) (q_move e53_53) ?_
            refine join_ops 4 (fun ρ (s55 : Bool) => ρ 3 = .pointer (some a1) ∧ ρ 58 = .bool s55) h ?_ ?_ <;> clear h
            · intro s55 H57 ρ h hE
              obtain ⟨e58_3, e58_58⟩ := hE
              refine GoOps.q (v := .bool s55) rfl rfl (by decide) (q_move e58_58) ?_
              refine join_ops 5 (fun ρ (s60 : Bool) => ρ 64 = .bool s60) h ?_ ?_ <;> clear h
              · intro s60 H62 ρ h hE
                have e63_64 := hE
                refine GoOps.q (v := .bool s60) rfl rfl (by decide) (q_assign e63_64) ?_
                refine GoOps.nil ?_
                exact Go.ret ⟨.inl rfl, _, _, DOk.nil, (resOk1 Try.results36 rfl), ⟨_, rfl, h⟩⟩
              · intro j61 hj61 h
                rcases bor s55 with hc59 | hc59
                · have h := h.1 hc59
                  refine GoOps.q (v := .pointer (some (a1.add 4))) (want_yes rfl rfl rfl hc59) rfl (by decide) (q_fieldAddr foff29_4 e58_3) ?_
                  obtain ⟨x64, hx65, h⟩ := h
                  refine GoOps.q (v := Sl.v x64) (want_yes rfl rfl rfl hc59) rfl (by decide) (q_load scalar27 rfl hx65) ?_
                  refine GoOps.q (v := .int .i64 (x64.len : Int)) (want_yes rfl rfl rfl hc59) rfl (by decide) (q_len Try.underlying27 rfl (ls1 rfl)) ?_
                  refine GoOps.q (v := .bool ((x64.len : Int) == 0)) (want_yes rfl rfl rfl hc59) rfl (by decide) (q_eql rfl rfl) ?_
                  refine GoOps.q (v := .bool ((x64.len : Int) == 0)) rfl rfl (by decide) (q_pickT (btT rfl hc59) rfl) ?_
                  exact hj61 ((x64.len : Int) == 0) _ _ h (by exact rfl)
                · have h := h.2 hc59
                  refine no_dst (want_no rfl rfl rfl hc59) rfl (by decide) ?_
                  refine no_dst (want_no rfl rfl rfl hc59) rfl (by decide) ?_
                  refine no_dst (want_no rfl rfl rfl hc59) rfl (by decide) ?_
                  refine no_dst (want_no rfl rfl rfl hc59) rfl (by decide) ?_
                  refine GoOps.q (v := .bool false) rfl rfl (by decide) (q_pickF (btF rfl hc59) rfl) ?_
                  exact hj61 false _ _ h (by exact rfl)
            · intro j56 hj56 h
              rcases bor s50 with hc54 | hc54
              · have h := h.1 hc54
                refine GoOps.q (v := .pointer (some (a1.add 3))) (want_yes rfl rfl rfl hc54) rfl (by decide) (q_fieldAddr foff29_3 e53_3) ?_
                obtain ⟨x66, hx67, h⟩ := h
                refine GoOps.q (v := .int .i64 x66) (want_yes rfl rfl rfl hc54) rfl (by decide) (q_load scalar3 rfl hx67) ?_
                refine GoOps.q (v := .bool (x66 == 0)) (want_yes rfl rfl rfl hc54) rfl (by decide) (q_eql rfl rfl) ?_
                refine GoOps.q (v := .bool (x66 == 0)) rfl rfl (by decide) (q_pickT (btT rfl hc54) rfl) ?_
                exact hj56 (x66 == 0) _ _ h (by exact ⟨e53_3, rfl⟩)
              · have h := h.2 hc54
                refine no_dst (want_no rfl rfl rfl hc54) rfl (by decide) ?_
                refine no_dst (want_no rfl rfl rfl hc54) rfl (by decide) ?_
                refine no_dst (want_no rfl rfl rfl hc54) rfl (by decide) ?_
                refine GoOps.q (v := .bool false) rfl rfl (by decide) (q_pickF (btF rfl hc54) rfl) ?_
                exact hj56 false _ _ h (by exact ⟨e53_3, rfl⟩)
          · intro j51 hj51 h
            rcases bor y48 with hc49 | hc49
            · have h := h.1 hc49
              refine GoOps.q (v := .pointer (some (a1.add 2))) (want_yes rfl rfl rfl hc49) rfl (by decide) (q_fieldAddr foff29_2 e43_3) ?_
              obtain ⟨x68, hx69, h⟩ := h
              refine GoOps.q (v := .int .i64 x68) (want_yes rfl rfl rfl hc49) rfl (by decide) (q_load scalar3 rfl hx69) ?_
              refine GoOps.q (v := .int .i64 (x6.len : Int)) (want_yes rfl rfl rfl hc49) rfl (by decide) (q_move e43_5) ?_
              refine GoOps.q (v := .pointer (some (a1.add 1))) (want_yes rfl rfl rfl hc49) rfl (by decide) (q_fieldAddr foff29_1 e43_3) ?_
              obtain ⟨x70, hx71, h⟩ := h
              refine GoOps.q (v := .int .i64 x70) (want_yes rfl rfl rfl hc49) rfl (by decide) (q_load scalar3 rfl hx71) ?_
              refine GoOps.q (v := .int .i64 (IntKind.wrap .i64 ((x6.len : Int) - x70))) (want_yes rfl rfl rfl hc49) rfl (by decide) (q_sub rfl rfl) ?_
              refine call_dst (want_yes rfl rfl rfl hc49) (by decide) body35 (keelsonref1_Within_s _ _ _ _ _ h) rfl ?_
              rintro _ H72 ⟨y73, rfl, h⟩
              refine GoOps.q (v := .bool y73) rfl rfl (by decide) (q_pickT (btT rfl hc49) rfl) ?_
              exact hj51 y73 _ _ h (by exact ⟨e43_3, rfl⟩)
            · have h := h.2 hc49
              refine no_dst (want_no rfl rfl rfl hc49) rfl (by decide) ?_
              refine no_dst (want_no rfl rfl rfl hc49) rfl (by decide) ?_
              refine no_dst (want_no rfl rfl rfl hc49) rfl (by decide) ?_
              refine no_dst (want_no rfl rfl rfl hc49) rfl (by decide) ?_
              refine no_dst (want_no rfl rfl rfl hc49) rfl (by decide) ?_
              refine no_dst (want_no rfl rfl rfl hc49) rfl (by decide) ?_
              refine no_dst (want_no rfl rfl rfl hc49) rfl (by decide) ?_
              refine GoOps.q (v := .bool false) rfl rfl (by decide) (q_pickF (btF rfl hc49) rfl) ?_
              exact hj51 false _ _ h (by exact ⟨e43_3, rfl⟩)
        · have h := h.2 hc44
          refine Go.condF (btF e43_37 hc44) ?_
          refine Go.seq ?_
          refine Go.region rfl ?_
          refine GoOps.q (v := .bool (x8 == 3)) rfl rfl (by decide) (q_eql e43_12 rfl) ?_
          refine GoOps.q (v := .bool (x8 == 3)) rfl rfl (by decide) (q_assign rfl) ?_
          refine GoOps.nil ?_
          rcases bor (x8 == 3) with hc74 | hc74
          · have h := h.1 hc74
            refine Go.condT (btT rfl hc74) ?_
            refine Go.seq ?_
            refine Go.draw mixed ?_
            refine plan_pure (i := 0) (d := 67) (S2 := 1) (v := .pointer (some (a1.add 1))) rfl (by decide +kernel) rfl (q_fieldAddr foff29_1 e43_3) ?_
            obtain ⟨x75, hx76, h⟩ := h
            refine plan_load (i := 1) (d := 68) (S2 := 3) (v := .int .i64 x75) rfl (by decide +kernel) rfl (q_load scalar3 rfl hx76) ?_
            refine plan_pure (i := 2) (d := 69) (S2 := 7) (v := .bool (x75 == 0)) rfl (by decide +kernel) rfl (q_eql rfl rfl) ?_
            refine plan_pure (i := 3) (d := 70) (S2 := 15) (v := .bool (x75 == 0)) rfl (by decide +kernel) rfl (q_move rfl) ?_
            refine join_plan 255 [5, 1] (fun ρ (s78 : Bool) => ρ 0 = .pointer p0 ∧ ρ 3 = .pointer (some a1) ∧ ρ 74 = .bool s78) h ?_ ?_ <;> clear h
            · intro s78 H80 ρ h hE
              obtain ⟨e81_0, e81_3, e81_74⟩ := hE
              refine plan_pure (i := 8) (d := 75) (S2 := 511) (v := .bool s78) rfl (by decide +kernel) rfl (q_move e81_74) ?_
              refine join_plan 262143 [14, 10, 5, 1] (fun ρ (s83 : Bool) => ρ 3 = .pointer (some a1) ∧ ρ 84 = .bool s83) h ?_ ?_ <;> clear h
              · intro s83 H85 ρ h hE
                obtain ⟨e86_3, e86_84⟩ := hE
                refine plan_pure (i := 18) (d := 85) (S2 := 524287) (v := .bool s83) rfl (by decide +kernel) rfl (q_move e86_84) ?_
                refine join_plan 16777215 [20, 14, 10, 5, 1] (fun ρ (s88 : Bool) => ρ 90 = .bool s88) h ?_ ?_ <;> clear h
                · intro s88 H90 ρ h hE
                  have e91_90 := hE
                  refine plan_pure (i := 24) (d := 4) (S2 := 33554431) (v := .bool s88) rfl (by decide +kernel) rfl (q_assign e91_90) ?_
                  refine plan_done (by decide +kernel) ?_
                  exact Go.ret ⟨.inl rfl, _, _, DOk.nil, (resOk1 Try.results36 rfl), ⟨_, rfl, h⟩⟩
                · intro j89 hj89 h
                  rcases bor s83 with hc87 | hc87
                  · have h := h.1 hc87
                    refine plan_pure (i := 19) (d := 86) (S2 := 1048575) (v := .pointer (some (a1.add 4))) rfl (by decide +kernel) (want_yes rfl rfl rfl hc87) (q_fieldAddr foff29_4 e86_3) ?_
                    obtain ⟨x92, hx93, h⟩ := h
                    refine plan_load (i := 20) (d := 87) (S2 := 2097151) (v := Sl.v x92) rfl (by decide +kernel) (want_yes rfl rfl rfl hc87) (q_load scalar27 rfl hx93) ?_
                    refine plan_pure (i := 21) (d := 88) (S2 := 4194303) (v := .int .i64 (x92.len : Int)) rfl (by decide +kernel) (want_yes rfl rfl rfl hc87) (q_len Try.underlying27 rfl (ls1 rfl)) ?_
                    refine plan_pure (i := 22) (d := 89) (S2 := 8388607) (v := .bool ((x92.len : Int) == 0)) rfl (by decide +kernel) (want_yes rfl rfl rfl hc87) (q_eql rfl rfl) ?_
                    refine plan_pure (i := 23) (d := 90) (S2 := 16777215) (v := .bool ((x92.len : Int) == 0)) rfl (by decide +kernel) rfl (q_pickT (btT rfl hc87) rfl) ?_
                    exact hj89 _ _ _ h rfl
                  · have h := h.2 hc87
                    refine plan_skip (i := 19) (d := 86) (S2 := 1048575) rfl (by decide +kernel) (want_no rfl rfl rfl hc87) ?_
                    refine plan_skip (i := 20) (d := 87) (S2 := 2097151) rfl (by decide +kernel) (want_no rfl rfl rfl hc87) ?_
                    refine plan_skip (i := 21) (d := 88) (S2 := 4194303) rfl (by decide +kernel) (want_no rfl rfl rfl hc87) ?_
                    refine plan_skip (i := 22) (d := 89) (S2 := 8388607) rfl (by decide +kernel) (want_no rfl rfl rfl hc87) ?_
                    refine plan_pure (i := 23) (d := 90) (S2 := 16777215) (v := .bool false) rfl (by decide +kernel) rfl (q_pickF (btF rfl hc87) rfl) ?_
                    refine plan_weaken (L2 := [20, 14, 10, 5, 1]) (by decide) ?_
                    exact hj89 _ _ _ h rfl
              · intro j84 hj84 h
                rcases bor s78 with hc82 | hc82
                · have h := h.1 hc82
                  refine plan_pure (i := 9) (d := 76) (S2 := 1023) (v := .pointer (some (a1.add 3))) rfl (by decide +kernel) (want_yes rfl rfl rfl hc82) (q_fieldAddr foff29_3 e81_3) ?_
                  obtain ⟨x94, hx95, h⟩ := h
                  refine plan_load (i := 10) (d := 77) (S2 := 2047) (v := .int .i64 x94) rfl (by decide +kernel) (want_yes rfl rfl rfl hc82) (q_load scalar3 rfl hx95) ?_
                  refine plan_pure (i := 11) (d := 78) (S2 := 4095) (v := .pointer p0) rfl (by decide +kernel) (want_yes rfl rfl rfl hc82) (q_move e81_0) ?_
                  obtain ⟨a96, ha97, h⟩ := h
                  refine plan_pure (i := 12) (d := 79) (S2 := 8191) (v := .pointer (some a96)) rfl (by decide +kernel) (want_yes rfl rfl rfl hc82) (q_nilCheck (ptn rfl ha97)) ?_
                  refine plan_pure (i := 13) (d := 80) (S2 := 16383) (v := .pointer (some (a96.add 2))) rfl (by decide +kernel) (want_yes rfl rfl rfl hc82) (q_fieldAddr foff41_2 rfl) ?_
                  obtain ⟨x98, hx99, h⟩ := h
                  refine plan_load (i := 14) (d := 81) (S2 := 32767) (v := .int .i64 x98) rfl (by decide +kernel) (want_yes rfl rfl rfl hc82) (q_load scalar3 rfl hx99) ?_
                  refine plan_pure (i := 15) (d := 82) (S2 := 65535) (v := .int .i64 (IntKind.wrap .i64 (x98 + 1))) rfl (by decide +kernel) (want_yes rfl rfl rfl hc82) (q_add rfl rfl) ?_
                  refine plan_pure (i := 16) (d := 83) (S2 := 131071) (v := .bool (x94 == (IntKind.wrap .i64 (x98 + 1)))) rfl (by decide +kernel) (want_yes rfl rfl rfl hc82) (q_eql rfl rfl) ?_
                  refine plan_pure (i := 17) (d := 84) (S2 := 262143) (v := .bool (x94 == (IntKind.wrap .i64 (x98 + 1)))) rfl (by decide +kernel) rfl (q_pickT (btT rfl hc82) rfl) ?_
                  exact hj84 _ _ _ h ⟨e81_3, rfl⟩
                · have h := h.2 hc82
                  refine plan_skip (i := 9) (d := 76) (S2 := 1023) rfl (by decide +kernel) (want_no rfl rfl rfl hc82) ?_
                  refine plan_skip (i := 10) (d := 77) (S2 := 2047) rfl (by decide +kernel) (want_no rfl rfl rfl hc82) ?_
                  refine plan_skip (i := 11) (d := 78) (S2 := 4095) rfl (by decide +kernel) (want_no rfl rfl rfl hc82) ?_
                  refine plan_skip (i := 12) (d := 79) (S2 := 8191) rfl (by decide +kernel) (want_no rfl rfl rfl hc82) ?_
                  refine plan_skip (i := 13) (d := 80) (S2 := 16383) rfl (by decide +kernel) (want_no rfl rfl rfl hc82) ?_
                  refine plan_skip (i := 14) (d := 81) (S2 := 32767) rfl (by decide +kernel) (want_no rfl rfl rfl hc82) ?_
                  refine plan_skip (i := 15) (d := 82) (S2 := 65535) rfl (by decide +kernel) (want_no rfl rfl rfl hc82) ?_
                  refine plan_skip (i := 16) (d := 83) (S2 := 131071) rfl (by decide +kernel) (want_no rfl rfl rfl hc82) ?_
                  refine plan_pure (i := 17) (d := 84) (S2 := 262143) (v := .bool false) rfl (by decide +kernel) rfl (q_pickF (btF rfl hc82) rfl) ?_
                  refine plan_weaken (L2 := [14, 10, 5, 1]) (by decide) ?_
                  exact hj84 _ _ _ h ⟨e81_3, rfl⟩
            · intro j79 hj79 h
              rcases bor (x75 == 0) with hc77 | hc77
              · have h := h.1 hc77
                refine plan_pure (i := 4) (d := 71) (S2 := 31) (v := .pointer (some (a1.add 2))) rfl (by decide +kernel) (want_yes rfl rfl rfl hc77) (q_fieldAddr foff29_2 e43_3) ?_
                obtain ⟨x100, hx101, h⟩ := h
                refine plan_load (i := 5) (d := 72) (S2 := 63) (v := .int .i64 x100) rfl (by decide +kernel) (want_yes rfl rfl rfl hc77) (q_load scalar3 rfl hx101) ?_
                refine plan_pure (i := 6) (d := 73) (S2 := 127) (v := .bool (x100 == 0)) rfl (by decide +kernel) (want_yes rfl rfl rfl hc77) (q_eql rfl rfl) ?_
                refine plan_pure (i := 7) (d := 74) (S2 := 255) (v := .bool (x100 == 0)) rfl (by decide +kernel) rfl (q_pickT (btT rfl hc77) rfl) ?_
                exact hj79 _ _ _ h ⟨e43_0, e43_3, rfl⟩
              · have h := h.2 hc77
                refine plan_skip (i := 4) (d := 71) (S2 := 31) rfl (by decide +kernel) (want_no rfl rfl rfl hc77) ?_
                refine plan_skip (i := 5) (d := 72) (S2 := 63) rfl (by decide +kernel) (want_no rfl rfl rfl hc77) ?_
                refine plan_skip (i := 6) (d := 73) (S2 := 127) rfl (by decide +kernel) (want_no rfl rfl rfl hc77) ?_
                refine plan_pure (i := 7) (d := 74) (S2 := 255) (v := .bool false) rfl (by decide +kernel) rfl (q_pickF (btF rfl hc77) rfl) ?_
                refine plan_weaken (L2 := [5, 1]) (by decide) ?_
                exact hj79 _ _ _ h ⟨e43_0, e43_3, rfl⟩
          · have h := h.2 hc74
            refine Go.condF (btF rfl hc74) ?_
            refine Go.skip ?_
            refine Go.inBlock ?_
            refine Go.seq ?_
            refine Go.region rfl ?_
            refine GoOps.q (v := .bool false) rfl rfl (by decide) (q_assign rfl) ?_
            refine GoOps.nil ?_
            exact Go.ret ⟨.inl rfl, _, _, DOk.nil, (resOk1 Try.results36 rfl), ⟨_, rfl, h⟩⟩
      · intro j41 hj41 h
        rcases bor (x8 == 2) with hc102 | hc102
        · have h := h.1 hc102
          refine Go.condT (btT rfl hc102) ?_
          refine Go.skip ?_
          exact hj41 _ _ _ h ⟨e13_0, e13_3, e13_5, e13_12, rfl⟩
        · have h := h.2 hc102
          refine Go.condF (btF rfl hc102) ?_
          refine Go.region rfl ?_
          refine GoOps.q (v := .bool (x8 == 6)) rfl rfl (by decide) (q_eql e13_12 rfl) ?_
          refine GoOps.q (v := .bool (x8 == 6)) rfl rfl (by decide) (q_assign rfl) ?_
          refine GoOps.nil ?_
          exact hj41 _ _ _ h ⟨e13_0, e13_3, e13_5, e13_12, rfl⟩
  · intro j11 hj11 h
    rcases bor (x8 == 1) with hc103 | hc103
    · have h := h.1 hc103
      refine Go.condT (btT rfl hc103) ?_
      refine Go.skip ?_
      exact hj11 _ _ _ h ⟨rfl, rfl, rfl, rfl, rfl⟩
    · have h := h.2 hc103
      refine Go.condF (btF rfl hc103) ?_
      refine Go.region rfl ?_
      refine GoOps.q (v := .bool (x8 == 5)) rfl rfl (by decide) (q_eql rfl rfl) ?_
      refine GoOps.q (v := .bool (x8 == 5)) rfl rfl (by decide) (q_assign rfl) ?_
      refine GoOps.nil ?_
      exact hj11 _ _ _ h ⟨rfl, rfl, rfl, rfl, rfl⟩

/-- keelson.keelsonref1.Part -/
def keelsonref1_Part (p0 : Sl) (p1 : Int) (p2 : Int) (H : PH) (Q : Sl → PH → Prop) : Prop :=
  mMk H 5 1 [.int .u8 0] (IntKind.wrap .i64 (p2 - p1)) (IntKind.wrap .i64 (p2 - p1)) fun r1 H2 =>
  mCut p0 1 p1 p2 fun r6 =>
  mCopy H2 1 r1 r6 fun x7 H8 =>
  Q r1 H8

set_option maxRecDepth 20000 in
set_option maxHeartbeats 1000000 in
theorem keelsonref1_Part_s (p0 : Sl) (p1 : Int) (p2 : Int) (H : PH) (Q : Sl → PH → Prop) (h : keelsonref1_Part p0 p1 p2 H Q) :
    CallsH Try.prog 37 #[Sl.v p0, .int .i64 p1, .int .i64 p2] H (fun v H' => ∃ (r0 : Sl), v = Sl.v r0 ∧ Q r0 H') := by
  unfold keelsonref1_Part at h
  refine callsH_of_go Try.func37 rfl Try.ntmps37 (Nat.le_of_ble_eq_true rfl) ?_
  refine Go.seq ?_
  refine Go.region rfl ?_
  refine GoOps.q (v := Sl.v Sl.nil) rfl rfl (by decide) (q_assign rfl) ?_
  refine GoOps.nil ?_
  refine Go.seq ?_
  refine Go.region rfl ?_
  refine GoOps.q (v := .int .i64 p2) rfl rfl (by decide) (q_move rfl) ?_
  refine GoOps.q (v := .int .i64 p1) rfl rfl (by decide) (q_move rfl) ?_
  refine GoOps.q (v := .int .i64 (IntKind.wrap .i64 (p2 - p1))) rfl rfl (by decide) (q_sub rfl rfl) ?_
  obtain ⟨hm4, h⟩ := h
  refine op_dst rfl rfl (by decide) (do_mk (zs := [.int .u8 0]) slice27 bytes5 (by decide) zero5 rfl rfl (by decide) rfl rfl hm4 fun r1 H2 hb3 => ?_) 
  have h := h r1 H2 hb3
  refine GoOps.q (v := Sl.v r1) rfl rfl (by decide) (q_assign rfl) ?_
  refine GoOps.nil ?_
  refine Go.seq ?_
  refine Go.region rfl ?_
  refine GoOps.q (v := Sl.v r1) rfl rfl (by decide) (q_move rfl) ?_
  refine GoOps.q (v := Sl.v p0) rfl rfl (by decide) (q_move rfl) ?_
  refine GoOps.q (v := .int .i64 p1) rfl rfl (by decide) (q_move rfl) ?_
  refine GoOps.q (v := .int .i64 p2) rfl rfl (by decide) (q_move rfl) ?_
  obtain ⟨r6, hm5, h⟩ := h
  refine GoOps.q (v := Sl.v r6) rfl rfl (by decide) (q_cut slice27 hm5 rfl ⟨_, rfl⟩ ⟨_, rfl⟩) ?_
  refine op_dst rfl rfl (by decide) (do_copy slice27 rfl rfl h fun x7 H8 h => ?_) 
  refine GoOps.nil ?_
  refine Go.seq ?_
  refine Go.region rfl ?_
  refine GoOps.q (v := Sl.v r1) rfl rfl (by decide) (q_move rfl) ?_
  refine GoOps.q (v := Sl.v r1) rfl rfl (by decide) (q_assign rfl) ?_
  refine GoOps.nil ?_
  exact Go.ret ⟨.inl rfl, _, _, DOk.nil, (resOk1 Try.results37 rfl), ⟨_, rfl, h⟩⟩

/-- (*keelson.keelsonref22.Ideal).Do -/
def keelsonref22_Ideal_Do (p0 : Option Addr) (p1 : (Int × Int × Int × Int × Sl)) (H : PH) (Q : Bool → PH → Prop) : Prop :=
  mNew H (row [.int .i64 p1.1, .int .i64 p1.2.1, .int .i64 p1.2.2.1, .int .i64 p1.2.2.2.1, Sl.v p1.2.2.2.2] 29) fun a1 H2 =>
  mLdR (fun (x : (Int × Int × Int × Int × Sl)) => [.int .i64 x.1, .int .i64 x.2.1, .int .i64 x.2.2.1, .int .i64 x.2.2.2.1, Sl.v x.2.2.2.2]) H2 a1 5 fun x4 =>
  keelsonref22_Ideal_IdealMay p0 (x4.1, x4.2.1, x4.2.2.1, x4.2.2.2.1, x4.2.2.2.2) H2 fun y7 H6 =>
  mIf (!y7)
  (Q false H6)
  (mLd (.int .i64) H6 (a1.add 0) fun x9 =>
  mJoin (fun (s11 : Unit) (H13 : PH) =>
  mLd (.int .i64) H13 (a1.add 0) fun x15 =>
  mJoin (fun (s18 : Bool) (H20 : PH) =>
  mJoin (fun (s23 : Bool) (H25 : PH) =>
  mJoin (fun (s27 : Unit) (H29 : PH) =>
  mLd (.int .i64) H29 (a1.add 0) fun x31 =>
  mJoin (fun (s33 : Unit) (H35 : PH) =>
  Q true H35)
  fun j34 =>
  mIf (x31 == 3)
  (mNil p0 fun a38 =>
  mLd (.int .i64) H29 (a38.add 3) fun x40 =>
  mNil p0 fun a42 =>
  mSt H29 (a42.add 4) ([.int .i64 x40]) fun H44 =>
  j34 () H44)
  (j34 () H29))
  fun j28 =>
  mIf s23
  (mNil p0 fun a47 =>
  mLd (.int .i64) H25 (a47.add 3) fun x49 =>
  mNil p0 fun a51 =>
  mSt H25 (a51.add 3) ([.int .i64 (IntKind.wrap .i64 (x49 + 1))]) fun H53 =>
  j28 () H53)
  (j28 () H25))
  fun j24 =>
  mIf s18
  (j24 true H20)
  (mLd (.int .i64) H20 (a1.add 0) fun x55 =>
  j24 (x55 == 3) H20))
  fun j19 =>
  mIf (x15 == 1)
  (j19 true H13)
  (mLd (.int .i64) H13 (a1.add 0) fun x57 =>
  j19 (x57 == 2) H13))
  fun j12 =>
  mIf (x9 == 1)
  (mNil p0 fun a60 =>
  mLd Sl.v H6 (a60.add 1) fun x62 =>
  mLd (.int .i64) H6 (a1.add 1) fun x64 =>
  mLd Sl.v H6 (a1.add 4) fun x66 =>
  keelsonref1_Part x66 0 64 H6 fun y69 H68 =>
  mSame H68 (a1.add 1) (.int .i64 x64) <|
  mSame H68 (a60.add 1) (Sl.v x62) <|
  mIdx x62 1 x64 fun a72 =>
  mSt H68 a72 ([Sl.v y69]) fun H74 =>
  j12 () H74)
  (mIf (x9 == 5)
  (mNil p0 fun a77 =>
  mLd Sl.v H6 (a77.add 0) fun x79 =>
  mLd (.int .i64) H6 (a1.add 1) fun x81 =>
  mLd Sl.v H6 (a1.add 4) fun x83 =>
  keelsonref1_Part x83 0 64 H6 fun y86 H85 =>
  mSame H85 (a1.add 1) (.int .i64 x81) <|
  mSame H85 (a77.add 0) (Sl.v x79) <|
  mIdx x79 1 x81 fun a89 =>
  mSt H85 a89 ([Sl.v y86]) fun H91 =>
  j12 () H91)
  (mJoin (fun (s93 : Bool) (H95 : PH) =>
  mIf s93
  (mLoop (fun (s98 : Int) (H101 : PH) (again99 : Int → PH → Prop) =>
  mLd (.int .i64) H101 (a1.add 2) fun x102 =>
  mIf (decide (s98 < x102))
  (mJoin (fun (s105 : Unit) (H107 : PH) =>
  again99 (IntKind.wrap .i64 (s98 + 1)) H107)
  fun j106 =>
  mLd (.int .i64) H101 (a1.add 0) fun x109 =>
  mIf (x109 == 2)
  (mNil p0 fun a112 =>
  mLd Sl.v H101 (a112.add 1) fun x114 =>
  mLd (.int .i64) H101 (a1.add 1) fun x116 =>
  mBoth (MkOk 1 64 64) <|
  mNewSI H101 (row (zeros (64 : Int).toNat [.int .u8 0]) 5) 64 64 fun r119 H120 =>
  mSame H120 (a1.add 1) (.int .i64 x116) <|
  mSame H120 (a112.add 1) (Sl.v x114) <|
  mIdx x114 1 (IntKind.wrap .i64 (x116 + s98)) fun a124 =>
  mSt H120 a124 ([Sl.v r119]) fun H126 =>
  j106 () H126)
  (mNil p0 fun a128 =>
  mLd Sl.v H101 (a128.add 0) fun x130 =>
  mLd (.int .i64) H101 (a1.add 1) fun x132 =>
  mBoth (MkOk 1 64 64) <|
  mNewSI H101 (row (zeros (64 : Int).toNat [.int .u8 0]) 5) 64 64 fun r135 H136 =>
  mSame H136 (a1.add 1) (.int .i64 x132) <|
  mSame H136 (a128.add 0) (Sl.v x130) <|
  mIdx x130 1 (IntKind.wrap .i64 (x132 + s98)) fun a140 =>
  mSt H136 a140 ([Sl.v r135]) fun H142 =>
  j106 () H142))
  (j12 () H101))
  0 H95)
  (mIf (x9 == 3)
  (mLoop (fun (s145 : Int) (H148 : PH) (again146 : Int → PH → Prop) =>
  mNil p0 fun a149 =>
  mLd Sl.v H148 (a149.add 0) fun x151 =>
  mIf (decide (s145 < (x151.len : Int)))
  (mJoin (fun (s154 : Unit) (H156 : PH) =>
  again146 (IntKind.wrap .i64 (s145 + 1)) H156)
  fun j155 =>
  mNil p0 fun a158 =>
  mLd Sl.v H148 (a158.add 1) fun x160 =>
  mIdx x160 1 s145 fun a162 =>
  mLd Sl.v H148 a162 fun x164 =>
  mIf (!(Option.isNone x164.a))
  (mNil p0 fun a167 =>
  mLd Sl.v H148 (a167.add 0) fun x169 =>
  mNil p0 fun a171 =>
  mLd Sl.v H148 (a171.add 1) fun x173 =>
  mIdx x173 1 s145 fun a175 =>
  mLd Sl.v H148 a175 fun x177 =>
  mIdx x169 1 s145 fun a179 =>
  mSt H148 a179 ([Sl.v x177]) fun H181 =>
  mNil p0 fun a183 =>
  mLd Sl.v H181 (a183.add 1) fun x185 =>
  mIdx x185 1 s145 fun a187 =>
  mSt H181 a187 ([Sl.v Sl.nil]) fun H189 =>
  j155 () H189)
  (j155 () H148))
  (mLd (.int .i64) H148 (a1.add 3) fun x191 =>
  mNil p0 fun a193 =>
  mSt H148 (a193.add 2) ([.int .i64 x191]) fun H195 =>
  j12 () H195))
  0 H95)
  (j12 () H95)))
  fun j94 =>
  mIf (x9 == 2)
  (j94 (x9 == 2) H6)
  (j94 (x9 == 6) H6))))

set_option maxRecDepth 20000 in
set_option maxHeartbeats 1000000 in
theorem keelsonref22_Ideal_Do_s (p0 : Option Addr) (p1 : (Int × Int × Int × Int × Sl)) (H : PH) (Q : Bool → PH → Prop) (h : keelsonref22_Ideal_Do p0 p1 H Q) :
    CallsH Try.prog 20 #[.pointer p0, .agg ([.int .i64 p1.1, .int .i64 p1.2.1, .int .i64 p1.2.2.1, .int .i64 p1.2.2.2.1, Sl.v p1.2.2.2.2] : List Value).toArray] H (fun v H' => ∃ (r0 : Bool), v = .bool r0 ∧ Q r0 H') := by
  unfold keelsonref22_Ideal_Do at h
  refine callsH_of_go Try.func20 rfl Try.ntmps20 (Nat.le_of_ble_eq_true rfl) ?_
  refine Go.seq ?_
  refine Go.region rfl ?_
  refine op_dst rfl rfl (by decide) (do_newBox (cs := [.int .i64 p1.1, .int .i64 p1.2.1, .int .i64 p1.2.2.1, .int .i64 p1.2.2.2.1, Sl.v p1.2.2.2.2]) rfl rfl fun a1 H2 hb3 => ?_) 
  have h := h a1 H2 hb3
  refine GoOps.q (v := .bool false) rfl rfl (by decide) (q_assign rfl) ?_
  refine GoOps.nil ?_
  refine Go.seq ?_
  refine Go.seq ?_
  refine Go.region rfl ?_
  refine GoOps.q (v := .pointer p0) rfl rfl (by decide) (q_move rfl) ?_
  obtain ⟨x4, hx5, h⟩ := h
  refine GoOps.q (v := .agg ([.int .i64 x4.1, .int .i64 x4.2.1, .int .i64 x4.2.2.1, .int .i64 x4.2.2.2.1, Sl.v x4.2.2.2.2] : List Value).toArray) rfl rfl (by decide) (q_loadA aggr29 rfl hx5) ?_
  refine call_dst rfl (by decide) body36 (keelsonref22_Ideal_IdealMay_s _ _ _ _ h) rfl ?_
  rintro _ H6 ⟨y7, rfl, h⟩
  refine GoOps.q (v := .bool (!y7)) rfl rfl (by decide) (q_not rfl) ?_
  refine GoOps.nil ?_
  rcases bor (!y7) with hc8 | hc8
  · have h := h.1 hc8
    refine Go.condT (btT rfl hc8) ?_
    refine Go.seq ?_
    refine Go.region rfl ?_
    refine GoOps.q (v := .bool false) rfl rfl (by decide) (q_assign rfl) ?_
    refine GoOps.nil ?_
    exact Go.ret ⟨.inl rfl, _, _, DOk.nil, (resOk1 Try.results20 rfl), ⟨_, rfl, h⟩⟩
  · have h := h.2 hc8
    refine Go.condF (btF rfl hc8) ?_
    refine Go.skip ?_
    refine Go.seq ?_
    refine Go.seq ?_
    refine Go.region rfl ?_
    refine GoOps.q (v := .pointer (some (a1.add 0))) rfl rfl (by decide) (q_fieldAddr foff29_0 rfl) ?_
    obtain ⟨x9, hx10, h⟩ := h
    refine GoOps.q (v := .int .i64 x9) rfl rfl (by decide) (q_load scalar3 rfl hx10) ?_
    refine GoOps.nil ?_
    refine join_go 1 (fun ρ (s11 : Unit) => ρ 0 = .pointer p0 ∧ ρ 3 = .pointer (some a1)) h ?_ ?_ <;> clear h
    · intro s11 H13 ρ h hE
      obtain ⟨e14_0, e14_3⟩ := hE
      refine Go.seq ?_
      refine Go.seq ?_
      refine Go.region rfl ?_
      refine GoOps.q (v := .pointer (some (a1.add 0))) rfl rfl (by decide) (q_fieldAddr foff29_0 e14_3) ?_
      obtain ⟨x15, hx16, h⟩ := h
      refine GoOps.q (v := .int .i64 x15) rfl rfl (by decide) (q_load scalar3 rfl hx16) ?_
      refine GoOps.q (v := .bool (x15 == 1)) rfl rfl (by decide) (q_eql rfl rfl) ?_
      refine GoOps.q (v := .bool (x15 == 1)) rfl rfl (by decide) (q_move rfl) ?_
      refine join_ops 4 (fun ρ (s18 : Bool) => ρ 0 = .pointer p0 ∧ ρ 3 = .pointer (some a1) ∧ ρ 119 = .bool s18) h ?_ ?_ <;> clear h
      · intro s18 H20 ρ h hE
        obtain ⟨e21_0, e21_3, e21_119⟩ := hE
        refine GoOps.q (v := .bool s18) rfl rfl (by decide) (q_move e21_119) ?_
        refine join_ops 4 (fun ρ (s23 : Bool) => ρ 0 = .pointer p0 ∧ ρ 3 = .pointer (some a1) ∧ ρ 124 = .bool s23) h ?_ ?_ <;> clear h
        · intro s23 H25 ρ h hE
          obtain ⟨e26_0, e26_3, e26_124⟩ := hE
          refine GoOps.nil ?_
          refine join_go 1 (fun ρ (s27 : Unit) => ρ 0 = .pointer p0 ∧ ρ 3 = .pointer (some a1)) h ?_ ?_ <;> clear h
          · intro s27 H29 ρ h hE
            obtain ⟨e30_0, e30_3⟩ := hE
            refine Go.seq ?_
            refine Go.seq ?_
            refine Go.region rfl ?_
            refine GoOps.q (v := .pointer (some (a1.add 0))) rfl rfl (by decide) (q_fieldAddr foff29_0 e30_3) ?_
            obtain ⟨x31, hx32, h⟩ := h
            refine GoOps.q (v := .int .i64 x31) rfl rfl (by decide) (q_load scalar3 rfl hx32) ?_
            refine GoOps.q (v := .bool (x31 == 3)) rfl rfl (by decide) (q_eql rfl rfl) ?_
            refine GoOps.nil ?_
            refine join_go 1 (fun ρ (s33 : Unit) => True) h ?_ ?_ <;> clear h
            · intro s33 H35 ρ h hE
              clear hE
              refine Go.seq ?_
              refine Go.region rfl ?_
              refine GoOps.q (v := .bool true) rfl rfl (by decide) (q_assign rfl) ?_
              refine GoOps.nil ?_
              exact Go.ret ⟨.inl rfl, _, _, DOk.nil, (resOk1 Try.results20 rfl), ⟨_, rfl, h⟩⟩
            · intro j34 hj34 h
              rcases bor (x31 == 3) with hc37 | hc37
              · have h := h.1 hc37
                refine Go.condT (btT rfl hc37) ?_
                refine Go.region rfl ?_
                refine GoOps.q (v := .pointer p0) rfl rfl (by decide) (q_move e30_0) ?_
                refine GoOps.q (v := .pointer p0) rfl rfl (by decide) (q_move e30_0) ?_
                obtain ⟨a38, ha39, h⟩ := h
                refine GoOps.q (v := .pointer (some a38)) rfl rfl (by decide) (q_nilCheck (ptn rfl ha39)) ?_
                refine GoOps.q (v := .pointer (some (a38.add 3))) rfl rfl (by decide) (q_fieldAddr foff41_3 rfl) ?_
                obtain ⟨x40, hx41, h⟩ := h
                refine GoOps.q (v := .int .i64 x40) rfl rfl (by decide) (q_load scalar3 rfl hx41) ?_
                obtain ⟨a42, ha43, h⟩ := h
                refine GoOps.q (v := .pointer (some a42)) rfl rfl (by decide) (q_nilCheck (ptn rfl ha43)) ?_
                refine GoOps.q (v := .pointer (some (a42.add 4))) rfl rfl (by decide) (q_fieldAddr foff41_4 rfl) ?_
                obtain ⟨q45b, q45o, q45c, q45e, hq45a, hq45b, hq45l, hq45v, h⟩ := h
                refine op_none rfl rfl (do_store (vs := [.int .i64 x40]) size3 (pta rfl hq45a) rfl rfl rfl hq45v hq45b hq45l ?_) 
                refine GoOps.nil ?_
                exact hj34 _ _ _ h trivial
              · have h := h.2 hc37
                refine Go.condF (btF rfl hc37) ?_
                refine Go.skip ?_
                exact hj34 _ _ _ h trivial
          · intro j28 hj28 h
            rcases bor s23 with hc46 | hc46
            · have h := h.1 hc46
              refine Go.condT (btT e26_124 hc46) ?_
              refine Go.region rfl ?_
              refine GoOps.q (v := .pointer p0) rfl rfl (by decide) (q_move e26_0) ?_
              obtain ⟨a47, ha48, h⟩ := h
              refine GoOps.q (v := .pointer (some a47)) rfl rfl (by decide) (q_nilCheck (ptn rfl ha48)) ?_
              refine GoOps.q (v := .pointer (some (a47.add 3))) rfl rfl (by decide) (q_fieldAddr foff41_3 rfl) ?_
              obtain ⟨x49, hx50, h⟩ := h
              refine GoOps.q (v := .int .i64 x49) rfl rfl (by decide) (q_load scalar3 rfl hx50) ?_
              refine GoOps.q (v := .int .i64 (IntKind.wrap .i64 (x49 + 1))) rfl rfl (by decide) (q_add rfl rfl) ?_
              obtain ⟨a51, ha52, h⟩ := h
              refine GoOps.q (v := .pointer (some a51)) rfl rfl (by decide) (q_nilCheck (ptn rfl ha52)) ?_
              refine GoOps.q (v := .pointer (some (a51.add 3))) rfl rfl (by decide) (q_fieldAddr foff41_3 rfl) ?_
              obtain ⟨q54b, q54o, q54c, q54e, hq54a, hq54b, hq54l, hq54v, h⟩ := h
              refine op_none rfl rfl (do_store (vs := [.int .i64 (IntKind.wrap .i64 (x49 + 1))]) size3 (pta rfl hq54a) rfl rfl rfl hq54v hq54b hq54l ?_) 
              refine GoOps.nil ?_
              exact hj28 _ _ _ h ⟨e26_0, e26_3⟩
            · have h := h.2 hc46
              refine Go.condF (btF e26_124 hc46) ?_
              refine Go.skip ?_
              exact hj28 _ _ _ h ⟨e26_0, e26_3⟩
        · intro j24 hj24 h
          rcases bor s18 with hc22 | hc22
          · have h := h.1 hc22
            refine no_dst (want_no rfl rfl rfl hc22) rfl (by decide) ?_
            refine no_dst (want_no rfl rfl rfl hc22) rfl (by decide) ?_
            refine no_dst (want_no rfl rfl rfl hc22) rfl (by decide) ?_
            refine GoOps.q (v := .bool true) rfl rfl (by decide) (q_pickT (btT rfl hc22) rfl) ?_
            exact hj24 true _ _ h (by exact ⟨e21_0, e21_3, rfl⟩)
          · have h := h.2 hc22
            refine GoOps.q (v := .pointer (some (a1.add 0))) (want_yes rfl rfl rfl hc22) rfl (by decide) (q_fieldAddr foff29_0 e21_3) ?_
            obtain ⟨x55, hx56, h⟩ := h
            refine GoOps.q (v := .int .i64 x55) (want_yes rfl rfl rfl hc22) rfl (by decide) (q_load scalar3 rfl hx56) ?_
            refine GoOps.q (v := .bool (x55 == 3)) (want_yes rfl rfl rfl hc22) rfl (by decide) (q_eql rfl rfl) ?_
            refine GoOps.q (v := .bool (x55 == 3)) rfl rfl (by decide) (q_pickF (btF rfl hc22) rfl) ?_
            exact hj24 (x55 == 3) _ _ h (by exact ⟨e21_0, e21_3, rfl⟩)
      · intro j19 hj19 h
        rcases bor (x15 == 1) with hc17 | hc17
        · have h := h.1 hc17
          refine no_dst (want_no rfl rfl rfl hc17) rfl (by decide) ?_
          refine no_dst (want_no rfl rfl rfl hc17) rfl (by decide) ?_
          refine no_dst (want_no rfl rfl rfl hc17) rfl (by decide) ?_
          refine GoOps.q (v := .bool true) rfl rfl (by decide) (q_pickT (btT rfl hc17) rfl) ?_
          exact hj19 true _ _ h (by exact ⟨e14_0, e14_3, rfl⟩)
        · have h := h.2 hc17
          refine GoOps.q (v := .pointer (some (a1.add 0))) (want_yes rfl rfl rfl hc17) rfl (by decide) (q_fieldAddr foff29_0 e14_3) ?_
          obtain ⟨x57, hx58, h⟩ := h
          refine GoOps.q (v := .int .i64 x57) (want_yes rfl rfl rfl hc17) rfl (by decide) (q_load scalar3 rfl hx58) ?_
          refine GoOps.q (v := .bool (x57 == 2)) (want_yes rfl rfl rfl hc17) rfl (by decide) (q_eql rfl rfl) ?_
          refine GoOps.q (v := .bool (x57 == 2)) rfl rfl (by decide) (q_pickF (btF rfl hc17) rfl) ?_
          exact hj19 (x57 == 2) _ _ h (by exact ⟨e14_0, e14_3, rfl⟩)
    · intro j12 hj12 h
      refine Go.block ?_
      refine Go.seq ?_
      refine Go.region rfl ?_
      refine GoOps.q (v := .bool (x9 == 1)) rfl rfl (by decide) (q_eql rfl rfl) ?_
      refine GoOps.q (v := .bool (x9 == 1)) rfl rfl (by decide) (q_assign rfl) ?_
      refine GoOps.nil ?_
      rcases bor (x9 == 1) with hc59 | hc59
      · have h := h.1 hc59
        refine Go.condT (btT rfl hc59) ?_
        refine Go.draw mixed ?_
        refine plan_pure (i := 0) (d := 15) (S2 := 1) (v := .pointer p0) rfl (by decide +kernel) rfl (q_move rfl) ?_
        obtain ⟨a60, ha61, h⟩ := h
        refine plan_pure (i := 1) (d := 16) (S2 := 3) (v := .pointer (some a60)) rfl (by decide +kernel) rfl (q_nilCheck (ptn rfl ha61)) ?_
        refine plan_pure (i := 2) (d := 17) (S2 := 7) (v := .pointer (some (a60.add 1))) rfl (by decide +kernel) rfl (q_fieldAddr foff41_1 rfl) ?_
        obtain ⟨x62, hx63, h⟩ := h
        refine plan_load (i := 3) (d := 18) (S2 := 15) (v := Sl.v x62) rfl (by decide +kernel) rfl (q_load scalar26 rfl hx63) ?_
        refine plan_pure (i := 4) (d := 19) (S2 := 31) (v := .pointer (some (a1.add 1))) rfl (by decide +kernel) rfl (q_fieldAddr foff29_1 rfl) ?_
        obtain ⟨x64, hx65, h⟩ := h
        refine plan_load (i := 5) (d := 20) (S2 := 63) (v := .int .i64 x64) rfl (by decide +kernel) rfl (q_load scalar3 rfl hx65) ?_
        refine plan_pure (i := 6) (d := 21) (S2 := 127) (v := .pointer (some (a1.add 4))) rfl (by decide +kernel) rfl (q_fieldAddr foff29_4 rfl) ?_
        obtain ⟨x66, hx67, h⟩ := h
        refine plan_load (i := 7) (d := 22) (S2 := 255) (v := Sl.v x66) rfl (by decide +kernel) rfl (q_load scalar27 rfl hx67) ?_
        refine plan_one (j := 8) (S2 := 511) (by decide +kernel) rfl (by decide) rfl ?_
        refine do_call2 body37 (keelsonref1_Part_s _ _ _ _ _ h) rfl ?_
        rintro _ H68 ⟨y69, rfl, h⟩
        obtain ⟨hr70, h⟩ := h
        obtain ⟨hr71, h⟩ := h
        refine ⟨_, (.inl ⟨⟨[8], by decide +kernel, rfl⟩, .inr ⟨⟨_, _, rfl, rfl, q_load scalar3 rfl hr70⟩, _, rfl, .inr ⟨⟨_, _, rfl, rfl, q_load scalar26 rfl hr71⟩, _, rfl, rfl⟩⟩⟩), ?_⟩
        obtain ⟨a72, ha73, h⟩ := h
        refine plan_pure (i := 9) (d := 24) (S2 := 1023) (v := .pointer (some a72)) rfl (by decide +kernel) rfl (q_idx slice26 ha73 rfl rfl) ?_
        refine plan_one (j := 10) (S2 := 2047) (by decide +kernel) rfl (by decide) rfl ?_
        obtain ⟨q75b, q75o, q75c, q75e, hq75a, hq75b, hq75l, hq75v, h⟩ := h
        refine do_store (vs := [Sl.v y69]) size27 (pta rfl hq75a) rfl rfl rfl hq75v hq75b hq75l ?_
        refine ⟨_, (.inl ⟨⟨[10], by decide +kernel, rfl⟩, .inl ⟨⟨[10], by decide +kernel, rfl⟩, rfl⟩⟩), ?_⟩
        refine plan_done (by decide +kernel) ?_
        refine Go.inBlock ?_
        exact hj12 _ _ _ h ⟨rfl, rfl⟩
      · have h := h.2 hc59
        refine Go.condF (btF rfl hc59) ?_
        refine Go.seq ?_
        refine Go.region rfl ?_
        refine GoOps.q (v := .bool (x9 == 5)) rfl rfl (by decide) (q_eql rfl rfl) ?_
        refine GoOps.q (v := .bool (x9 == 5)) rfl rfl (by decide) (q_assign rfl) ?_
        refine GoOps.nil ?_
        rcases bor (x9 == 5) with hc76 | hc76
        · have h := h.1 hc76
          refine Go.condT (btT rfl hc76) ?_
          refine Go.draw mixed ?_
          refine plan_pure (i := 0) (d := 27) (S2 := 1) (v := .pointer p0) rfl (by decide +kernel) rfl (q_move rfl) ?_
          obtain ⟨a77, ha78, h⟩ := h
          refine plan_pure (i := 1) (d := 28) (S2 := 3) (v := .pointer (some a77)) rfl (by decide +kernel) rfl (q_nilCheck (ptn rfl ha78)) ?_
          refine plan_pure (i := 2) (d := 29) (S2 := 7) (v := .pointer (some (a77.add 0))) rfl (by decide +kernel) rfl (q_fieldAddr foff41_0 rfl) ?_
          obtain ⟨x79, hx80, h⟩ := h
          refine plan_load (i := 3) (d := 30) (S2 := 15) (v := Sl.v x79) rfl (by decide +kernel) rfl (q_load scalar26 rfl hx80) ?_
          refine plan_pure (i := 4) (d := 31) (S2 := 31) (v := .pointer (some (a1.add 1))) rfl (by decide +kernel) rfl (q_fieldAddr foff29_1 rfl) ?_
          obtain ⟨x81, hx82, h⟩ := h
          refine plan_load (i := 5) (d := 32) (S2 := 63) (v := .int .i64 x81) rfl (by decide +kernel) rfl (q_load scalar3 rfl hx82) ?_
          refine plan_pure (i := 6) (d := 33) (S2 := 127) (v := .pointer (some (a1.add 4))) rfl (by decide +kernel) rfl (q_fieldAddr foff29_4 rfl) ?_
          obtain ⟨x83, hx84, h⟩ := h
          refine plan_load (i := 7) (d := 34) (S2 := 255) (v := Sl.v x83) rfl (by decide +kernel) rfl (q_load scalar27 rfl hx84) ?_
          refine plan_one (j := 8) (S2 := 511) (by decide +kernel) rfl (by decide) rfl ?_
          refine do_call2 body37 (keelsonref1_Part_s _ _ _ _ _ h) rfl ?_
          rintro _ H85 ⟨y86, rfl, h⟩
          obtain ⟨hr87, h⟩ := h
          obtain ⟨hr88, h⟩ := h
          refine ⟨_, (.inl ⟨⟨[8], by decide +kernel, rfl⟩, .inr ⟨⟨_, _, rfl, rfl, q_load scalar3 rfl hr87⟩, _, rfl, .inr ⟨⟨_, _, rfl, rfl, q_load scalar26 rfl hr88⟩, _, rfl, rfl⟩⟩⟩), ?_⟩
          obtain ⟨a89, ha90, h⟩ := h
          refine plan_pure (i := 9) (d := 36) (S2 := 1023) (v := .pointer (some a89)) rfl (by decide +kernel) rfl (q_idx slice26 ha90 rfl rfl) ?_
          refine plan_one (j := 10) (S2 := 2047) (by decide +kernel) rfl (by decide) rfl ?_
          obtain ⟨q92b, q92o, q92c, q92e, hq92a, hq92b, hq92l, hq92v, h⟩ := h
          refine do_store (vs := [Sl.v y86]) size27 (pta rfl hq92a) rfl rfl rfl hq92v hq92b hq92l ?_
          refine ⟨_, (.inl ⟨⟨[10], by decide +kernel, rfl⟩, .inl ⟨⟨[10], by decide +kernel, rfl⟩, rfl⟩⟩), ?_⟩
          refine plan_done (by decide +kernel) ?_
          refine Go.inBlock ?_
          exact hj12 _ _ _ h ⟨rfl, rfl⟩
        · have h := h.2 hc76
          refine Go.condF (btF rfl hc76) ?_
          refine Go.seq ?_
          refine Go.seq ?_
          refine Go.region rfl ?_
          refine GoOps.q (v := .bool (x9 == 2)) rfl rfl (by decide) (q_eql rfl rfl) ?_
          refine GoOps.q (v := .bool (x9 == 2)) rfl rfl (by decide) (q_assign rfl) ?_
          refine GoOps.nil ?_
          refine join_go 1 (fun ρ (s93 : Bool) => ρ 0 = .pointer p0 ∧ ρ 3 = .pointer (some a1) ∧ ρ 12 = .int .i64 x9 ∧ ρ 37 = .bool s93) h ?_ ?_ <;> clear h
          · intro s93 H95 ρ h hE
            obtain ⟨e96_0, e96_3, e96_12, e96_37⟩ := hE
            rcases bor s93 with hc97 | hc97
            · have h := h.1 hc97
              refine Go.condT (btT e96_37 hc97) ?_
              refine Go.seq ?_
              refine Go.region rfl ?_
              refine GoOps.q (v := .int .i64 0) rfl rfl (by decide) (q_assign rfl) ?_
              refine GoOps.nil ?_
              refine Go.block ?_
              refine loop_go (fun ρ (s98 : Int) => ρ 0 = .pointer p0 ∧ ρ 3 = .pointer (some a1) ∧ ρ 5 = .int .i64 s98) h ⟨e96_0, e96_3, rfl⟩ ?_
              clear h
              intro ρ s98 H101 again99 hE h hagain99
              obtain ⟨e100_0, e100_3, e100_5⟩ := hE
              refine Go.seq ?_
              refine Go.seq ?_
              refine Go.region rfl ?_
              refine GoOps.q (v := .int .i64 s98) rfl rfl (by decide) (q_move e100_5) ?_
              refine GoOps.q (v := .pointer (some (a1.add 2))) rfl rfl (by decide) (q_fieldAddr foff29_2 e100_3) ?_
              obtain ⟨x102, hx103, h⟩ := h
              refine GoOps.q (v := .int .i64 x102) rfl rfl (by decide) (q_load scalar3 rfl hx103) ?_
              refine GoOps.q (v := .bool (decide (s98 < x102))) rfl rfl (by decide) (q_lss rfl rfl) ?_
              refine GoOps.nil ?_
              rcases bor (decide (s98 < x102)) with hc104 | hc104
              · have h := h.1 hc104
                refine Go.condT (btT rfl hc104) ?_
                refine Go.skip ?_
                refine Go.seq ?_
                refine join_go 1 (fun ρ (s105 : Unit) => ρ 0 = .pointer p0 ∧ ρ 3 = .pointer (some a1) ∧ ρ 5 = .int .i64 s98) h ?_ ?_ <;> clear h
                · intro s105 H107 ρ h hE
                  obtain ⟨e108_0, e108_3, e108_5⟩ := hE
                  refine Go.region rfl ?_
                  refine GoOps.q (v := .int .i64 s98) rfl rfl (by decide) (q_move e108_5) ?_
                  refine GoOps.q (v := .int .i64 (IntKind.wrap .i64 (s98 + 1))) rfl rfl (by decide) (q_add rfl rfl) ?_
                  refine GoOps.q (v := .int .i64 (IntKind.wrap .i64 (s98 + 1))) rfl rfl (by decide) (q_assign rfl) ?_
                  refine GoOps.nil ?_
                  exact hagain99 _ _ _ h ⟨e108_0, e108_3, rfl⟩
                · intro j106 hj106 h
                  refine Go.block ?_
                  refine Go.seq ?_
                  refine Go.region rfl ?_
                  refine GoOps.q (v := .pointer (some (a1.add 0))) rfl rfl (by decide) (q_fieldAddr foff29_0 e100_3) ?_
                  obtain ⟨x109, hx110, h⟩ := h
                  refine GoOps.q (v := .int .i64 x109) rfl rfl (by decide) (q_load scalar3 rfl hx110) ?_
                  refine GoOps.q (v := .bool (x109 == 2)) rfl rfl (by decide) (q_eql rfl rfl) ?_
                  refine GoOps.nil ?_
                  rcases bor (x109 == 2) with hc111 | hc111
                  · have h := h.1 hc111
                    refine Go.condT (btT rfl hc111) ?_
                    refine Go.draw mixed ?_
                    refine plan_pure (i := 0) (d := 49) (S2 := 1) (v := .pointer p0) rfl (by decide +kernel) rfl (q_move e100_0) ?_
                    obtain ⟨a112, ha113, h⟩ := h
                    refine plan_pure (i := 1) (d := 50) (S2 := 3) (v := .pointer (some a112)) rfl (by decide +kernel) rfl (q_nilCheck (ptn rfl ha113)) ?_
                    refine plan_pure (i := 2) (d := 51) (S2 := 7) (v := .pointer (some (a112.add 1))) rfl (by decide +kernel) rfl (q_fieldAddr foff41_1 rfl) ?_
                    obtain ⟨x114, hx115, h⟩ := h
                    refine plan_load (i := 3) (d := 52) (S2 := 15) (v := Sl.v x114) rfl (by decide +kernel) rfl (q_load scalar26 rfl hx115) ?_
                    refine plan_pure (i := 4) (d := 53) (S2 := 31) (v := .pointer (some (a1.add 1))) rfl (by decide +kernel) rfl (q_fieldAddr foff29_1 e100_3) ?_
                    obtain ⟨x116, hx117, h⟩ := h
                    refine plan_load (i := 5) (d := 54) (S2 := 63) (v := .int .i64 x116) rfl (by decide +kernel) rfl (q_load scalar3 rfl hx117) ?_
                    refine plan_pure (i := 6) (d := 55) (S2 := 127) (v := .int .i64 s98) rfl (by decide +kernel) rfl (q_move e100_5) ?_
                    refine plan_pure (i := 7) (d := 56) (S2 := 255) (v := .int .i64 (IntKind.wrap .i64 (x116 + s98))) rfl (by decide +kernel) rfl (q_add rfl rfl) ?_
                    obtain ⟨hm118, h⟩ := h
                    refine plan_one (j := 8) (S2 := 511) (by decide +kernel) rfl (by decide) rfl ?_
                    refine do_mk (zs := [.int .u8 0]) slice27 bytes5 (by decide) zero5 rfl rfl (by decide) rfl rfl hm118 fun r119 H120 hb121 => ?_
                    have h := h r119 H120 hb121
                    obtain ⟨hr122, h⟩ := h
                    obtain ⟨hr123, h⟩ := h
                    refine ⟨_, (.inr ⟨⟨_, _, rfl, rfl, q_load scalar3 rfl hr122⟩, _, rfl, .inr ⟨⟨_, _, rfl, rfl, q_load scalar26 rfl hr123⟩, _, rfl, rfl⟩⟩), ?_⟩
                    obtain ⟨a124, ha125, h⟩ := h
                    refine plan_pure (i := 9) (d := 58) (S2 := 1023) (v := .pointer (some a124)) rfl (by decide +kernel) rfl (q_idx slice26 ha125 rfl rfl) ?_
                    refine plan_one (j := 10) (S2 := 2047) (by decide +kernel) rfl (by decide) rfl ?_
                    obtain ⟨q127b, q127o, q127c, q127e, hq127a, hq127b, hq127l, hq127v, h⟩ := h
                    refine do_store (vs := [Sl.v r119]) size27 (pta rfl hq127a) rfl rfl rfl hq127v hq127b hq127l ?_
                    refine ⟨_, (.inl ⟨⟨[10], by decide +kernel, rfl⟩, .inl ⟨⟨[10], by decide +kernel, rfl⟩, rfl⟩⟩), ?_⟩
                    refine plan_done (by decide +kernel) ?_
                    refine Go.inBlock ?_
                    exact hj106 _ _ _ h ⟨e100_0, e100_3, e100_5⟩
                  · have h := h.2 hc111
                    refine Go.condF (btF rfl hc111) ?_
                    refine Go.draw mixed ?_
                    refine plan_pure (i := 0) (d := 59) (S2 := 1) (v := .pointer p0) rfl (by decide +kernel) rfl (q_move e100_0) ?_
                    obtain ⟨a128, ha129, h⟩ := h
                    refine plan_pure (i := 1) (d := 60) (S2 := 3) (v := .pointer (some a128)) rfl (by decide +kernel) rfl (q_nilCheck (ptn rfl ha129)) ?_
                    refine plan_pure (i := 2) (d := 61) (S2 := 7) (v := .pointer (some (a128.add 0))) rfl (by decide +kernel) rfl (q_fieldAddr foff41_0 rfl) ?_
                    obtain ⟨x130, hx131, h⟩ := h
                    refine plan_load (i := 3) (d := 62) (S2 := 15) (v := Sl.v x130) rfl (by decide +kernel) rfl (q_load scalar26 rfl hx131) ?_
                    refine plan_pure (i := 4) (d := 63) (S2 := 31) (v := .pointer (some (a1.add 1))) rfl (by decide +kernel) rfl (q_fieldAddr foff29_1 e100_3) ?_
                    obtain ⟨x132, hx133, h⟩ := h
                    refine plan_load (i := 5) (d := 64) (S2 := 63) (v := .int .i64 x132) rfl (by decide +kernel) rfl (q_load scalar3 rfl hx133) ?_
                    refine plan_pure (i := 6) (d := 65) (S2 := 127) (v := .int .i64 s98) rfl (by decide +kernel) rfl (q_move e100_5) ?_
                    refine plan_pure (i := 7) (d := 66) (S2 := 255) (v := .int .i64 (IntKind.wrap .i64 (x132 + s98))) rfl (by decide +kernel) rfl (q_add rfl rfl) ?_
                    obtain ⟨hm134, h⟩ := h
                    refine plan_one (j := 8) (S2 := 511) (by decide +kernel) rfl (by decide) rfl ?_
                    refine do_mk (zs := [.int .u8 0]) slice27 bytes5 (by decide) zero5 rfl rfl (by decide) rfl rfl hm134 fun r135 H136 hb137 => ?_
                    have h := h r135 H136 hb137
                    obtain ⟨hr138, h⟩ := h
                    obtain ⟨hr139, h⟩ := h
                    refine ⟨_, (.inr ⟨⟨_, _, rfl, rfl, q_load scalar3 rfl hr138⟩, _, rfl, .inr ⟨⟨_, _, rfl, rfl, q_load scalar26 rfl hr139⟩, _, rfl, rfl⟩⟩), ?_⟩
                    obtain ⟨a140, ha141, h⟩ := h
                    refine plan_pure (i := 9) (d := 68) (S2 := 1023) (v := .pointer (some a140)) rfl (by decide +kernel) rfl (q_idx slice26 ha141 rfl rfl) ?_
                    refine plan_one (j := 10) (S2 := 2047) (by decide +kernel) rfl (by decide) rfl ?_
                    obtain ⟨q143b, q143o, q143c, q143e, hq143a, hq143b, hq143l, hq143v, h⟩ := h
                    refine do_store (vs := [Sl.v r135]) size27 (pta rfl hq143a) rfl rfl rfl hq143v hq143b hq143l ?_
                    refine ⟨_, (.inl ⟨⟨[10], by decide +kernel, rfl⟩, .inl ⟨⟨[10], by decide +kernel, rfl⟩, rfl⟩⟩), ?_⟩
                    refine plan_done (by decide +kernel) ?_
                    refine Go.inBlock ?_
                    exact hj106 _ _ _ h ⟨e100_0, e100_3, e100_5⟩
              · have h := h.2 hc104
                refine Go.condF (btF rfl hc104) ?_
                refine Go.exit rfl ?_
                refine Go.inBlock ?_
                exact hj12 _ _ _ h ⟨e100_0, e100_3⟩
            · have h := h.2 hc97
              refine Go.condF (btF e96_37 hc97) ?_
              refine Go.seq ?_
              refine Go.region rfl ?_
              refine GoOps.q (v := .bool (x9 == 3)) rfl rfl (by decide) (q_eql e96_12 rfl) ?_
              refine GoOps.q (v := .bool (x9 == 3)) rfl rfl (by decide) (q_assign rfl) ?_
              refine GoOps.nil ?_
              rcases bor (x9 == 3) with hc144 | hc144
              · have h := h.1 hc144
                refine Go.condT (btT rfl hc144) ?_
                refine Go.seq ?_
                refine Go.seq ?_
                refine Go.region rfl ?_
                refine GoOps.q (v := .int .i64 0) rfl rfl (by decide) (q_assign rfl) ?_
                refine GoOps.nil ?_
                refine Go.block ?_
                refine loop_go (fun ρ (s145 : Int) => ρ 0 = .pointer p0 ∧ ρ 3 = .pointer (some a1) ∧ ρ 6 = .int .i64 s145) h ⟨e96_0, e96_3, rfl⟩ ?_
                clear h
                intro ρ s145 H148 again146 hE h hagain146
                obtain ⟨e147_0, e147_3, e147_6⟩ := hE
                refine Go.seq ?_
                refine Go.seq ?_
                refine Go.region rfl ?_
                refine GoOps.q (v := .int .i64 s145) rfl rfl (by decide) (q_move e147_6) ?_
                refine GoOps.q (v := .pointer p0) rfl rfl (by decide) (q_move e147_0) ?_
                obtain ⟨a149, ha150, h⟩ := h
                refine GoOps.q (v := .pointer (some a149)) rfl rfl (by decide) (q_nilCheck (ptn rfl ha150)) ?_
                refine GoOps.q (v := .pointer (some (a149.add 0))) rfl rfl (by decide) (q_fieldAddr foff41_0 rfl) ?_
                obtain ⟨x151, hx152, h⟩ := h
                refine GoOps.q (v := Sl.v x151) rfl rfl (by decide) (q_load scalar26 rfl hx152) ?_
                refine GoOps.q (v := .int .i64 (x151.len : Int)) rfl rfl (by decide) (q_len Try.underlying26 rfl (ls1 rfl)) ?_
                refine GoOps.q (v := .bool (decide (s145 < (x151.len : Int)))) rfl rfl (by decide) (q_lss rfl rfl) ?_
                refine GoOps.nil ?_
                rcases bor (decide (s145 < (x151.len : Int))) with hc153 | hc153
                · have h := h.1 hc153
                  refine Go.condT (btT rfl hc153) ?_
                  refine Go.skip ?_
                  refine Go.seq ?_
                  refine join_go 1 (fun ρ (s154 : Unit) => ρ 0 = .pointer p0 ∧ ρ 3 = .pointer (some a1) ∧ ρ 6 = .int .i64 s145) h ?_ ?_ <;> clear h
                  · intro s154 H156 ρ h hE
                    obtain ⟨e157_0, e157_3, e157_6⟩ := hE
                    refine Go.region rfl ?_
                    refine GoOps.q (v := .int .i64 s145) rfl rfl (by decide) (q_move e157_6) ?_
                    refine GoOps.q (v := .int .i64 (IntKind.wrap .i64 (s145 + 1))) rfl rfl (by decide) (q_add rfl rfl) ?_
                    refine GoOps.q (v := .int .i64 (IntKind.wrap .i64 (s145 + 1))) rfl rfl (by decide) (q_assign rfl) ?_
                    refine GoOps.nil ?_
                    exact hagain146 _ _ _ h ⟨e157_0, e157_3, rfl⟩
                  · intro j155 hj155 h
                    refine Go.block ?_
                    refine Go.seq ?_
                    refine Go.region rfl ?_
                    refine GoOps.q (v := .pointer p0) rfl rfl (by decide) (q_move e147_0) ?_
                    obtain ⟨a158, ha159, h⟩ := h
                    refine GoOps.q (v := .pointer (some a158)) rfl rfl (by decide) (q_nilCheck (ptn rfl ha159)) ?_
                    refine GoOps.q (v := .pointer (some (a158.add 1))) rfl rfl (by decide) (q_fieldAddr foff41_1 rfl) ?_
                    obtain ⟨x160, hx161, h⟩ := h
                    refine GoOps.q (v := Sl.v x160) rfl rfl (by decide) (q_load scalar26 rfl hx161) ?_
                    refine GoOps.q (v := .int .i64 s145) rfl rfl (by decide) (q_move e147_6) ?_
                    obtain ⟨a162, ha163, h⟩ := h
                    refine GoOps.q (v := .pointer (some a162)) rfl rfl (by decide) (q_idx slice26 ha163 rfl rfl) ?_
                    obtain ⟨x164, hx165, h⟩ := h
                    refine GoOps.q (v := Sl.v x164) rfl rfl (by decide) (q_load scalar27 rfl hx165) ?_
                    refine GoOps.q (v := .bool (!(Option.isNone x164.a))) rfl rfl (by decide) (q_neqSn Try.underlying27 rfl rfl) ?_
                    refine GoOps.nil ?_
                    rcases bor (!(Option.isNone x164.a)) with hc166 | hc166
                    · have h := h.1 hc166
                      refine Go.condT (btT rfl hc166) ?_
                      refine Go.seq ?_
                      refine Go.draw mixed ?_
                      refine plan_pure (i := 0) (d := 88) (S2 := 1) (v := .pointer p0) rfl (by decide +kernel) rfl (q_move e147_0) ?_
                      obtain ⟨a167, ha168, h⟩ := h
                      refine plan_pure (i := 1) (d := 89) (S2 := 3) (v := .pointer (some a167)) rfl (by decide +kernel) rfl (q_nilCheck (ptn rfl ha168)) ?_
                      refine plan_pure (i := 2) (d := 90) (S2 := 7) (v := .pointer (some (a167.add 0))) rfl (by decide +kernel) rfl (q_fieldAddr foff41_0 rfl) ?_
                      obtain ⟨x169, hx170, h⟩ := h
                      refine plan_load (i := 3) (d := 91) (S2 := 15) (v := Sl.v x169) rfl (by decide +kernel) rfl (q_load scalar26 rfl hx170) ?_
                      refine plan_pure (i := 4) (d := 92) (S2 := 31) (v := .int .i64 s145) rfl (by decide +kernel) rfl (q_move e147_6) ?_
                      refine plan_pure (i := 5) (d := 93) (S2 := 63) (v := .pointer p0) rfl (by decide +kernel) rfl (q_move e147_0) ?_
                      obtain ⟨a171, ha172, h⟩ := h
                      refine plan_pure (i := 6) (d := 94) (S2 := 127) (v := .pointer (some a171)) rfl (by decide +kernel) rfl (q_nilCheck (ptn rfl ha172)) ?_
                      refine plan_pure (i := 7) (d := 95) (S2 := 255) (v := .pointer (some (a171.add 1))) rfl (by decide +kernel) rfl (q_fieldAddr foff41_1 rfl) ?_
                      obtain ⟨x173, hx174, h⟩ := h
                      refine plan_load (i := 8) (d := 96) (S2 := 511) (v := Sl.v x173) rfl (by decide +kernel) rfl (q_load scalar26 rfl hx174) ?_
                      refine plan_pure (i := 9) (d := 97) (S2 := 1023) (v := .int .i64 s145) rfl (by decide +kernel) rfl (q_move e147_6) ?_
                      obtain ⟨a175, ha176, h⟩ := h
                      refine plan_pure (i := 10) (d := 98) (S2 := 2047) (v := .pointer (some a175)) rfl (by decide +kernel) rfl (q_idx slice26 ha176 rfl rfl) ?_
                      obtain ⟨x177, hx178, h⟩ := h
                      refine plan_load (i := 11) (d := 99) (S2 := 4095) (v := Sl.v x177) rfl (by decide +kernel) rfl (q_load scalar27 rfl hx178) ?_
                      obtain ⟨a179, ha180, h⟩ := h
                      refine plan_pure (i := 12) (d := 100) (S2 := 8191) (v := .pointer (some a179)) rfl (by decide +kernel) rfl (q_idx slice26 ha180 rfl rfl) ?_
                      refine plan_one (j := 13) (S2 := 16383) (by decide +kernel) rfl (by decide) rfl ?_
                      obtain ⟨q182b, q182o, q182c, q182e, hq182a, hq182b, hq182l, hq182v, h⟩ := h
                      refine do_store (vs := [Sl.v x177]) size27 (pta rfl hq182a) rfl rfl rfl hq182v hq182b hq182l ?_
                      refine ⟨_, (.inl ⟨⟨[13], by decide +kernel, rfl⟩, .inl ⟨⟨[13], by decide +kernel, rfl⟩, .inl ⟨⟨[13], by decide +kernel, rfl⟩, rfl⟩⟩⟩), ?_⟩
                      refine plan_done (by decide +kernel) ?_
                      refine Go.region rfl ?_
                      refine GoOps.q (v := .pointer p0) rfl rfl (by decide) (q_move e147_0) ?_
                      obtain ⟨a183, ha184, h⟩ := h
                      refine GoOps.q (v := .pointer (some a183)) rfl rfl (by decide) (q_nilCheck (ptn rfl ha184)) ?_
                      refine GoOps.q (v := .pointer (some (a183.add 1))) rfl rfl (by decide) (q_fieldAddr foff41_1 rfl) ?_
                      obtain ⟨x185, hx186, h⟩ := h
                      refine GoOps.q (v := Sl.v x185) rfl rfl (by decide) (q_load scalar26 rfl hx186) ?_
                      refine GoOps.q (v := .int .i64 s145) rfl rfl (by decide) (q_move e147_6) ?_
                      obtain ⟨a187, ha188, h⟩ := h
                      refine GoOps.q (v := .pointer (some a187)) rfl rfl (by decide) (q_idx slice26 ha188 rfl rfl) ?_
                      obtain ⟨q190b, q190o, q190c, q190e, hq190a, hq190b, hq190l, hq190v, h⟩ := h
                      refine op_none rfl rfl (do_store (vs := [Sl.v Sl.nil]) size27 (pta rfl hq190a) rfl rfl rfl hq190v hq190b hq190l ?_) 
                      refine GoOps.nil ?_
                      refine Go.inBlock ?_
                      exact hj155 _ _ _ h ⟨e147_0, e147_3, e147_6⟩
                    · have h := h.2 hc166
                      refine Go.condF (btF rfl hc166) ?_
                      refine Go.skip ?_
                      refine Go.inBlock ?_
                      exact hj155 _ _ _ h ⟨e147_0, e147_3, e147_6⟩
                · have h := h.2 hc153
                  refine Go.condF (btF rfl hc153) ?_
                  refine Go.exit rfl ?_
                  refine Go.region rfl ?_
                  refine GoOps.q (v := .pointer p0) rfl rfl (by decide) (q_move e147_0) ?_
                  refine GoOps.q (v := .pointer (some (a1.add 3))) rfl rfl (by decide) (q_fieldAddr foff29_3 e147_3) ?_
                  obtain ⟨x191, hx192, h⟩ := h
                  refine GoOps.q (v := .int .i64 x191) rfl rfl (by decide) (q_load scalar3 rfl hx192) ?_
                  obtain ⟨a193, ha194, h⟩ := h
                  refine GoOps.q (v := .pointer (some a193)) rfl rfl (by decide) (q_nilCheck (ptn rfl ha194)) ?_
                  refine GoOps.q (v := .pointer (some (a193.add 2))) rfl rfl (by decide) (q_fieldAddr foff41_2 rfl) ?_
                  obtain ⟨q196b, q196o, q196c, q196e, hq196a, hq196b, hq196l, hq196v, h⟩ := h
                  refine op_none rfl rfl (do_store (vs := [.int .i64 x191]) size3 (pta rfl hq196a) rfl rfl rfl hq196v hq196b hq196l ?_) 
                  refine GoOps.nil ?_
                  refine Go.inBlock ?_
                  exact hj12 _ _ _ h ⟨e147_0, e147_3⟩
              · have h := h.2 hc144
                refine Go.condF (btF rfl hc144) ?_
                refine Go.skip ?_
                refine Go.inBlock ?_
                exact hj12 _ _ _ h ⟨e96_0, e96_3⟩
          · intro j94 hj94 h
            rcases bor (x9 == 2) with hc197 | hc197
            · have h := h.1 hc197
              refine Go.condT (btT rfl hc197) ?_
              refine Go.skip ?_
              exact hj94 _ _ _ h ⟨rfl, rfl, rfl, rfl⟩
            · have h := h.2 hc197
              refine Go.condF (btF rfl hc197) ?_
              refine Go.region rfl ?_
              refine GoOps.q (v := .bool (x9 == 6)) rfl rfl (by decide) (q_eql rfl rfl) ?_
              refine GoOps.q (v := .bool (x9 == 6)) rfl rfl (by decide) (q_assign rfl) ?_
              refine GoOps.nil ?_
              exact hj94 _ _ _ h ⟨rfl, rfl, rfl, rfl⟩

/-- (*keelson.keelsonref22.Ideal).Read -/
def keelsonref22_Ideal_Read (p0 : Option Addr) (p1 : Int) (H : PH) (Q : Sl → PH → Prop) : Prop :=
  mNil p0 fun a1 =>
  mLd Sl.v H (a1.add 0) fun x3 =>
  keelsonref1_Within p1 0 (IntKind.wrap .i64 ((x3.len : Int) - 1)) H fun y6 H5 =>
  mIf (!y6)
  (Q Sl.nil H5)
  (mNil p0 fun a8 =>
  mLd Sl.v H5 (a8.add 0) fun x10 =>
  mIdx x10 1 p1 fun a12 =>
  mLd Sl.v H5 a12 fun x14 =>
  Q x14 H5)

set_option maxRecDepth 20000 in
set_option maxHeartbeats 1000000 in
theorem keelsonref22_Ideal_Read_s (p0 : Option Addr) (p1 : Int) (H : PH) (Q : Sl → PH → Prop) (h : keelsonref22_Ideal_Read p0 p1 H Q) :
    CallsH Try.prog 21 #[.pointer p0, .int .i64 p1] H (fun v H' => ∃ (r0 : Sl), v = Sl.v r0 ∧ Q r0 H') := by
  unfold keelsonref22_Ideal_Read at h
  refine callsH_of_go Try.func21 rfl Try.ntmps21 (Nat.le_of_ble_eq_true rfl) ?_
  refine Go.seq ?_
  refine Go.region rfl ?_
  refine GoOps.q (v := Sl.v Sl.nil) rfl rfl (by decide) (q_assign rfl) ?_
  refine GoOps.nil ?_
  refine Go.seq ?_
  refine Go.seq ?_
  refine Go.region rfl ?_
  refine GoOps.q (v := .int .i64 p1) rfl rfl (by decide) (q_move rfl) ?_
  refine GoOps.q (v := .pointer p0) rfl rfl (by decide) (q_move rfl) ?_
  obtain ⟨a1, ha2, h⟩ := h
  refine GoOps.q (v := .pointer (some a1)) rfl rfl (by decide) (q_nilCheck (ptn rfl ha2)) ?_
  refine GoOps.q (v := .pointer (some (a1.add 0))) rfl rfl (by decide) (q_fieldAddr foff41_0 rfl) ?_
  obtain ⟨x3, hx4, h⟩ := h
  refine GoOps.q (v := Sl.v x3) rfl rfl (by decide) (q_load scalar26 rfl hx4) ?_
  refine GoOps.q (v := .int .i64 (x3.len : Int)) rfl rfl (by decide) (q_len Try.underlying26 rfl (ls1 rfl)) ?_
  refine GoOps.q (v := .int .i64 (IntKind.wrap .i64 ((x3.len : Int) - 1))) rfl rfl (by decide) (q_sub rfl rfl) ?_
  refine call_dst rfl (by decide) body35 (keelsonref1_Within_s _ _ _ _ _ h) rfl ?_
  rintro _ H5 ⟨y6, rfl, h⟩
  refine GoOps.q (v := .bool (!y6)) rfl rfl (by decide) (q_not rfl) ?_
  refine GoOps.nil ?_
  rcases bor (!y6) with hc7 | hc7
  · have h := h.1 hc7
    refine Go.condT (btT rfl hc7) ?_
    refine Go.seq ?_
    refine Go.region rfl ?_
    refine GoOps.q (v := Sl.v Sl.nil) rfl rfl (by decide) (q_assign rfl) ?_
    refine GoOps.nil ?_
    exact Go.ret ⟨.inl rfl, _, _, DOk.nil, (resOk1 Try.results21 rfl), ⟨_, rfl, h⟩⟩
  · have h := h.2 hc7
    refine Go.condF (btF rfl hc7) ?_
    refine Go.skip ?_
    refine Go.seq ?_
    refine Go.region rfl ?_
    refine GoOps.q (v := .pointer p0) rfl rfl (by decide) (q_move rfl) ?_
    obtain ⟨a8, ha9, h⟩ := h
    refine GoOps.q (v := .pointer (some a8)) rfl rfl (by decide) (q_nilCheck (ptn rfl ha9)) ?_
    refine GoOps.q (v := .pointer (some (a8.add 0))) rfl rfl (by decide) (q_fieldAddr foff41_0 rfl) ?_
    obtain ⟨x10, hx11, h⟩ := h
    refine GoOps.q (v := Sl.v x10) rfl rfl (by decide) (q_load scalar26 rfl hx11) ?_
    refine GoOps.q (v := .int .i64 p1) rfl rfl (by decide) (q_move rfl) ?_
    obtain ⟨a12, ha13, h⟩ := h
    refine GoOps.q (v := .pointer (some a12)) rfl rfl (by decide) (q_idx slice26 ha13 rfl rfl) ?_
    obtain ⟨x14, hx15, h⟩ := h
    refine GoOps.q (v := Sl.v x14) rfl rfl (by decide) (q_load scalar27 rfl hx15) ?_
    refine GoOps.q (v := Sl.v x14) rfl rfl (by decide) (q_assign rfl) ?_
    refine GoOps.nil ?_
    exact Go.ret ⟨.inl rfl, _, _, DOk.nil, (resOk1 Try.results21 rfl), ⟨_, rfl, h⟩⟩

/-- (*keelson.keelsonref22.Ideal).Look -/
def keelsonref22_Ideal_Look (p0 : Option Addr) (p1 : Int) (H : PH) (Q : Sl → PH → Prop) : Prop :=
  mNil p0 fun a1 =>
  mLd Sl.v H (a1.add 0) fun x3 =>
  keelsonref1_Within p1 0 (IntKind.wrap .i64 ((x3.len : Int) - 1)) H fun y6 H5 =>
  mIf (!y6)
  (Q Sl.nil H5)
  (mNil p0 fun a8 =>
  mLd Sl.v H5 (a8.add 1) fun x10 =>
  mIdx x10 1 p1 fun a12 =>
  mLd Sl.v H5 a12 fun x14 =>
  mIf (!(Option.isNone x14.a))
  (mNil p0 fun a17 =>
  mLd Sl.v H5 (a17.add 1) fun x19 =>
  mIdx x19 1 p1 fun a21 =>
  mLd Sl.v H5 a21 fun x23 =>
  Q x23 H5)
  (mNil p0 fun a25 =>
  mLd Sl.v H5 (a25.add 0) fun x27 =>
  mIdx x27 1 p1 fun a29 =>
  mLd Sl.v H5 a29 fun x31 =>
  Q x31 H5))

set_option maxRecDepth 20000 in
set_option maxHeartbeats 1000000 in
theorem keelsonref22_Ideal_Look_s (p0 : Option Addr) (p1 : Int) (H : PH) (Q : Sl → PH → Prop) (h : keelsonref22_Ideal_Look p0 p1 H Q) :
    CallsH Try.prog 22 #[.pointer p0, .int .i64 p1] H (fun v H' => ∃ (r0 : Sl), v = Sl.v r0 ∧ Q r0 H') := by
  unfold keelsonref22_Ideal_Look at h
  refine callsH_of_go Try.func22 rfl Try.ntmps22 (Nat.le_of_ble_eq_true rfl) ?_
  refine Go.seq ?_
  refine Go.region rfl ?_
  refine GoOps.q (v := Sl.v Sl.nil) rfl rfl (by decide) (q_assign rfl) ?_
  refine GoOps.nil ?_
  refine Go.seq ?_
  refine Go.seq ?_
  refine Go.region rfl ?_
  refine GoOps.q (v := .int .i64 p1) rfl rfl (by decide) (q_move rfl) ?_
  refine GoOps.q (v := .pointer p0) rfl rfl (by decide) (q_move rfl) ?_
  obtain ⟨a1, ha2, h⟩ := h
  refine GoOps.q (v := .pointer (some a1)) rfl rfl (by decide) (q_nilCheck (ptn rfl ha2)) ?_
  refine GoOps.q (v := .pointer (some (a1.add 0))) rfl rfl (by decide) (q_fieldAddr foff41_0 rfl) ?_
  obtain ⟨x3, hx4, h⟩ := h
  refine GoOps.q (v := Sl.v x3) rfl rfl (by decide) (q_load scalar26 rfl hx4) ?_
  refine GoOps.q (v := .int .i64 (x3.len : Int)) rfl rfl (by decide) (q_len Try.underlying26 rfl (ls1 rfl)) ?_
  refine GoOps.q (v := .int .i64 (IntKind.wrap .i64 ((x3.len : Int) - 1))) rfl rfl (by decide) (q_sub rfl rfl) ?_
  refine call_dst rfl (by decide) body35 (keelsonref1_Within_s _ _ _ _ _ h) rfl ?_
  rintro _ H5 ⟨y6, rfl, h⟩
  refine GoOps.q (v := .bool (!y6)) rfl rfl (by decide) (q_not rfl) ?_
  refine GoOps.nil ?_
  rcases bor (!y6) with hc7 | hc7
  · have h := h.1 hc7
    refine Go.condT (btT rfl hc7) ?_
    refine Go.seq ?_
    refine Go.region rfl ?_
    refine GoOps.q (v := Sl.v Sl.nil) rfl rfl (by decide) (q_assign rfl) ?_
    refine GoOps.nil ?_
    exact Go.ret ⟨.inl rfl, _, _, DOk.nil, (resOk1 Try.results22 rfl), ⟨_, rfl, h⟩⟩
  · have h := h.2 hc7
    refine Go.condF (btF rfl hc7) ?_
    refine Go.skip ?_
    refine Go.seq ?_
    refine Go.seq ?_
    refine Go.region rfl ?_
    refine GoOps.q (v := .pointer p0) rfl rfl (by decide) (q_move rfl) ?_
    obtain ⟨a8, ha9, h⟩ := h
    refine GoOps.q (v := .pointer (some a8)) rfl rfl (by decide) (q_nilCheck (ptn rfl ha9)) ?_
    refine GoOps.q (v := .pointer (some (a8.add 1))) rfl rfl (by decide) (q_fieldAddr foff41_1 rfl) ?_
    obtain ⟨x10, hx11, h⟩ := h
    refine GoOps.q (v := Sl.v x10) rfl rfl (by decide) (q_load scalar26 rfl hx11) ?_
    refine GoOps.q (v := .int .i64 p1) rfl rfl (by decide) (q_move rfl) ?_
    obtain ⟨a12, ha13, h⟩ := h
    refine GoOps.q (v := .pointer (some a12)) rfl rfl (by decide) (q_idx slice26 ha13 rfl rfl) ?_
    obtain ⟨x14, hx15, h⟩ := h
    refine GoOps.q (v := Sl.v x14) rfl rfl (by decide) (q_load scalar27 rfl hx15) ?_
    refine GoOps.q (v := .bool (!(Option.isNone x14.a))) rfl rfl (by decide) (q_neqSn Try.underlying27 rfl rfl) ?_
    refine GoOps.nil ?_
    rcases bor (!(Option.isNone x14.a)) with hc16 | hc16
    · have h := h.1 hc16
      refine Go.condT (btT rfl hc16) ?_
      refine Go.seq ?_
      refine Go.region rfl ?_
      refine GoOps.q (v := .pointer p0) rfl rfl (by decide) (q_move rfl) ?_
      obtain ⟨a17, ha18, h⟩ := h
      refine GoOps.q (v := .pointer (some a17)) rfl rfl (by decide) (q_nilCheck (ptn rfl ha18)) ?_
      refine GoOps.q (v := .pointer (some (a17.add 1))) rfl rfl (by decide) (q_fieldAddr foff41_1 rfl) ?_
      obtain ⟨x19, hx20, h⟩ := h
      refine GoOps.q (v := Sl.v x19) rfl rfl (by decide) (q_load scalar26 rfl hx20) ?_
      refine GoOps.q (v := .int .i64 p1) rfl rfl (by decide) (q_move rfl) ?_
      obtain ⟨a21, ha22, h⟩ := h
      refine GoOps.q (v := .pointer (some a21)) rfl rfl (by decide) (q_idx slice26 ha22 rfl rfl) ?_
      obtain ⟨x23, hx24, h⟩ := h
      refine GoOps.q (v := Sl.v x23) rfl rfl (by decide) (q_load scalar27 rfl hx24) ?_
      refine GoOps.q (v := Sl.v x23) rfl rfl (by decide) (q_assign rfl) ?_
      refine GoOps.nil ?_
      exact Go.ret ⟨.inl rfl, _, _, DOk.nil, (resOk1 Try.results22 rfl), ⟨_, rfl, h⟩⟩
    · have h := h.2 hc16
      refine Go.condF (btF rfl hc16) ?_
      refine Go.skip ?_
      refine Go.seq ?_
      refine Go.region rfl ?_
      refine GoOps.q (v := .pointer p0) rfl rfl (by decide) (q_move rfl) ?_
      obtain ⟨a25, ha26, h⟩ := h
      refine GoOps.q (v := .pointer (some a25)) rfl rfl (by decide) (q_nilCheck (ptn rfl ha26)) ?_
      refine GoOps.q (v := .pointer (some (a25.add 0))) rfl rfl (by decide) (q_fieldAddr foff41_0 rfl) ?_
      obtain ⟨x27, hx28, h⟩ := h
      refine GoOps.q (v := Sl.v x27) rfl rfl (by decide) (q_load scalar26 rfl hx28) ?_
      refine GoOps.q (v := .int .i64 p1) rfl rfl (by decide) (q_move rfl) ?_
      obtain ⟨a29, ha30, h⟩ := h
      refine GoOps.q (v := .pointer (some a29)) rfl rfl (by decide) (q_idx slice26 ha30 rfl rfl) ?_
      obtain ⟨x31, hx32, h⟩ := h
      refine GoOps.q (v := Sl.v x31) rfl rfl (by decide) (q_load scalar27 rfl hx32) ?_
      refine GoOps.q (v := Sl.v x31) rfl rfl (by decide) (q_assign rfl) ?_
      refine GoOps.nil ?_
      exact Go.ret ⟨.inl rfl, _, _, DOk.nil, (resOk1 Try.results22 rfl), ⟨_, rfl, h⟩⟩

/-- (*keelson.ideal.Ideal).All$1 -/
def ideal_Ideal_All_c1 {γ : Type} (c0 : Addr) (Y : List Value → γ → PH → (Nat → γ → PH → Prop) → Prop) (g : γ) (H : PH) (Q : Nat → γ → PH → Prop) : Prop :=
  mLd .pointer H c0 fun x1 =>
  mIf (Option.isNone x1)
  (Q (0, g).1 (0, g).2 H)
  (mLd .pointer H c0 fun x4 =>
  mNil x4 fun a6 =>
  mLd Sl.v H (a6.add 0) fun x8 =>
  mLoop (fun (s10 : Int × (Nat × γ)) (H13 : PH) (again11 : (Int × (Nat × γ)) → PH → Prop) =>
  mIf (decide (s10.1 < (x8.len : Int)))
  (mLd .pointer H13 c0 fun x15 =>
  ideal_Ideal_Read x15 s10.1 H13 fun y18 H17 =>
  mYield Y s10.2 [.int .i64 s10.1, Sl.v y18] H17 fun q19 H20 =>
  mIf (!(q19.1 == 0))
  (Q q19.1 q19.2 H20)
  (again11 (IntKind.wrap .i64 (s10.1 + 1), q19) H20))
  (Q s10.2.1 s10.2.2 H13))
  (0, (0, g)) H)

set_option maxRecDepth 20000 in
set_option maxHeartbeats 1000000 in
theorem ideal_Ideal_All_c1_s {γ : Type} (c0 : Addr) (Y : List Value → γ → PH → (Nat → γ → PH → Prop) → Prop) (g : γ) (H : PH) (Q : Nat → γ → PH → Prop) (h : ideal_Ideal_All_c1 c0 Y g H Q) :
    IterH Try.prog (.func (.func 40) #[] #[.pointer (some c0)]) Y g H Q := by
  unfold ideal_Ideal_All_c1 at h
  refine iterH_of_goM (fi := []) (ca := [.pointer (some c0)]) body40 Try.func40 rfl Try.ntmps40 (Nat.le_of_ble_eq_true rfl) fun l Tk hd hy => ?_
  generalize hyv : Value.func (.yield l) #[] #[] = yv
  intro D M hM hB hA
  refine Go.seq ?_
  refine Go.seq ?_
  refine Go.region rfl ?_
  obtain ⟨x1, hx2, h⟩ := h
  refine GoOps.q (v := .pointer x1) rfl rfl (by decide) (q_load scalar24 rfl hx2) ?_
  refine GoOps.q (v := .bool (Option.isNone x1)) rfl rfl (by decide) (q_eqlPn Try.underlying24 rfl rfl) ?_
  refine GoOps.nil ?_
  rcases bor (Option.isNone x1) with hc3 | hc3
  · have h := h.1 hc3
    refine Go.condT (btT rfl hc3) ?_
    exact Go.retM (g := (0, g)) hM hB hA ⟨.inl rfl, _, (resOk0 Try.results40), h⟩
  · have h := h.2 hc3
    refine Go.condF (btF rfl hc3) ?_
    refine Go.skip ?_
    refine Go.seq ?_
    refine Go.region rfl ?_
    obtain ⟨x4, hx5, h⟩ := h
    refine GoOps.q (v := .pointer x4) rfl rfl (by decide) (q_load scalar24 rfl hx5) ?_
    obtain ⟨a6, ha7, h⟩ := h
    refine GoOps.q (v := .pointer (some a6)) rfl rfl (by decide) (q_nilCheck (ptn rfl ha7)) ?_
    refine GoOps.q (v := .pointer (some (a6.add 0))) rfl rfl (by decide) (q_fieldAddr foff51_0 rfl) ?_
    obtain ⟨x8, hx9, h⟩ := h
    refine GoOps.q (v := Sl.v x8) rfl rfl (by decide) (q_load scalar49 rfl hx9) ?_
    refine GoOps.q (v := .int .i64 (x8.len : Int)) rfl rfl (by decide) (q_len Try.underlying49 rfl (ls1 rfl)) ?_
    refine GoOps.q (v := .int .i64 0) rfl rfl (by decide) (q_move rfl) ?_
    refine GoOps.nil ?_
    refine Go.block ?_
    refine loop_goM (g := (0, g)) (fun s10 => s10.2) (fun ρ (s10 : Int × (Nat × γ)) => ρ 0 = yv ∧ ρ 1 = .pointer (some c0) ∧ ρ 10 = .int .i64 (x8.len : Int) ∧ ρ 11 = .int .i64 s10.1) hM hB hA h ⟨rfl, rfl, rfl, rfl⟩ rfl ?_
    clear h
    intro ρ s10 H13 again11 hE h hagain11
    obtain ⟨e12_0, e12_1, e12_10, e12_11⟩ := hE
    intro D M hM hB hA
    refine Go.seq ?_
    refine Go.region rfl ?_
    refine GoOps.q (v := .bool (decide (s10.1 < (x8.len : Int)))) rfl rfl (by decide) (q_lss e12_11 e12_10) ?_
    refine GoOps.nil ?_
    refine Go.seq ?_
    rcases bor (decide (s10.1 < (x8.len : Int))) with hc14 | hc14
    · have h := h.1 hc14
      refine Go.condT (btT rfl hc14) ?_
      refine Go.skip ?_
      refine Go.seq ?_
      refine Go.block ?_
      refine Go.seq ?_
      refine Go.region rfl ?_
      refine GoOps.q (v := .int .i64 s10.1) rfl rfl (by decide) (q_move e12_11) ?_
      refine GoOps.q (v := .int .i64 s10.1) rfl rfl (by decide) (q_assign rfl) ?_
      refine GoOps.nil ?_
      refine Go.seq ?_
      refine Go.region rfl ?_
      refine GoOps.q (v := yv) rfl rfl (by decide) (q_move e12_0) ?_
      refine GoOps.q (v := .int .i64 s10.1) rfl rfl (by decide) (q_move rfl) ?_
      obtain ⟨x15, hx16, h⟩ := h
      refine GoOps.q (v := .pointer x15) rfl rfl (by decide) (q_load scalar24 e12_1 hx16) ?_
      refine GoOps.q (v := .int .i64 s10.1) rfl rfl (by decide) (q_move rfl) ?_
      refine call_dst rfl (by decide) body13 (ideal_Ideal_Read_s _ _ _ _ h) rfl ?_
      rintro _ H17 ⟨y18, rfl, h⟩
      refine op_dst rfl rfl (by decide) (do_yieldP (q := s10.2) hy hA (Eq.trans rfl hyv.symm) rfl h fun q19 H20 h => ?_) 
      refine GoOps.q (v := .bool (!(q19.1 == 0))) rfl rfl (by decide) (q_not rfl) ?_
      refine GoOps.nil ?_
      rcases bor (!(q19.1 == 0)) with hc21 | hc21
      · have h := h.1 hc21
        refine Go.condT (btT rfl hc21) ?_
        exact Go.retM (g := q19) hM hB hA ⟨.inl rfl, _, (resOk0 Try.results40), h⟩
      · have h := h.2 hc21
        refine Go.condF (btF rfl hc21) ?_
        refine Go.skip ?_
        refine Go.inBlock ?_
        refine Go.region rfl ?_
        refine GoOps.q (v := .int .i64 (IntKind.wrap .i64 (s10.1 + 1))) rfl rfl (by decide) (q_add e12_11 rfl) ?_
        refine GoOps.q (v := .int .i64 (IntKind.wrap .i64 (s10.1 + 1))) rfl rfl (by decide) (q_move rfl) ?_
        refine GoOps.nil ?_
        exact hagain11 (IntKind.wrap .i64 (s10.1 + 1), q19) _ _ h (by exact ⟨e12_0, e12_1, e12_10, rfl⟩) _ _ hM hB hA
    · have h := h.2 hc14
      refine Go.condF (btF rfl hc14) ?_
      refine Go.exit rfl ?_
      exact Go.fallM (g := s10.2) hM hB hA ⟨.inr rfl, _, (resOk0 Try.results40), h⟩

/-- (*keelson.ideal.Ideal).All -/
def ideal_Ideal_All (p0 : Option Addr) (H : PH) (Q : Value → PH → Prop) : Prop :=
  mNew H (row [.pointer p0] 24) fun a1 H2 =>
  Q (.func (.func 40) #[] #[.pointer (some a1)]) H2

set_option maxRecDepth 20000 in
set_option maxHeartbeats 1000000 in
theorem ideal_Ideal_All_s (p0 : Option Addr) (H : PH) (Q : Value → PH → Prop) (h : ideal_Ideal_All p0 H Q) :
    CallsH Try.prog 38 #[.pointer p0] H (fun v H' => ∃ (r0 : Value), v = r0 ∧ Q r0 H') := by
  unfold ideal_Ideal_All at h
  refine callsH_of_go Try.func38 rfl Try.ntmps38 (Nat.le_of_ble_eq_true rfl) ?_
  refine Go.seq ?_
  refine Go.region rfl ?_
  refine op_dst rfl rfl (by decide) (do_newBox (cs := [.pointer p0]) rfl rfl fun a1 H2 hb3 => ?_) 
  have h := h a1 H2 hb3
  refine GoOps.q (v := .nilFunc) rfl rfl (by decide) (q_assign rfl) ?_
  refine GoOps.nil ?_
  refine Go.seq ?_
  refine Go.region rfl ?_
  refine GoOps.q (v := (.func (.func 40) #[] #[.pointer (some a1)])) rfl rfl (by decide) (q_makeFunc rfl rfl) ?_
  refine GoOps.q (v := (.func (.func 40) #[] #[.pointer (some a1)])) rfl rfl (by decide) (q_assign rfl) ?_
  refine GoOps.nil ?_
  exact Go.ret ⟨.inl rfl, _, _, DOk.nil, (resOk1 Try.results38 rfl), ⟨_, rfl, h⟩⟩

/-- keelson.keelsonlaw24.all -/
def keelsonlaw24_all (p0 : Option Addr) (H : PH) (Q : Sl → Bool → PH → Prop) : Prop :=
  mNew H (row [.slice none 0 0] 26) fun a1 H2 =>
  mNew H2 (row [.bool false] 4) fun a4 H5 =>
  ideal_Ideal_All p0 H5 fun y8 H7 =>
  mBoth (IsFn y8) <|
  mIf (fisNil y8)
  (mSt H7 a1 ([Sl.v Sl.nil]) fun H11 =>
  mSt H11 a4 ([.bool false]) fun H13 =>
  mLd Sl.v H13 a1 fun x15 =>
  mLd .bool H13 a4 fun x17 =>
  Q x15 x17 H13)
  (mNew H7 (row [.slice none 0 0] 26) fun a19 H20 =>
  IterH Try.prog y8 (fun (vs22 : List Value) (q23 : Unit) (H24 : PH) (y25 : Nat → Unit → PH → Prop) =>
  ∃ (x26 : Int) (x27 : Sl), vs22 = [.int .i64 x26, Sl.v x27] ∧
  mLd Sl.v H24 a19 fun x28 =>
  mJoin (fun (s31 : Bool) (H33 : PH) =>
  mIf s31
  (mSt H33 a1 ([Sl.v Sl.nil]) fun H36 =>
  mSt H36 a4 ([.bool false]) fun H38 =>
  y25 1 () H38)
  (mLd Sl.v H33 a19 fun x40 =>
  mNewS H33 (row [Sl.v x27] 27) 1 fun r42 H43 =>
  mApp H43 27 1 24 [.slice none 0 0] x40 r42 fun r45 H46 =>
  mSt H46 a19 ([Sl.v r45]) fun H47 =>
  y25 0 () H47))
  fun j32 =>
  mIf (x26 != (x28.len : Int))
  (j32 true H24)
  (mLd Sl.v H24 a19 fun x49 =>
  j32 (decide (100 < (x49.len : Int))) H24)) () H20 fun j51 q52 H53 =>
  mIf (j51 == 1)
  (mLd Sl.v H53 a1 fun x64 =>
  mLd .bool H53 a4 fun x66 =>
  Q x64 x66 H53)
  (mLd Sl.v H53 a19 fun x54 =>
  mSt H53 a1 ([Sl.v x54]) fun H56 =>
  mSt H56 a4 ([.bool true]) fun H58 =>
  mLd Sl.v H58 a1 fun x60 =>
  mLd .bool H58 a4 fun x62 =>
  Q x60 x62 H58))

set_option maxRecDepth 20000 in
set_option maxHeartbeats 1000000 in
theorem keelsonlaw24_all_s (p0 : Option Addr) (H : PH) (Q : Sl → Bool → PH → Prop) (h : keelsonlaw24_all p0 H Q) :
    CallsH Try.prog 23 #[.pointer p0] H (fun v H' => ∃ (r0 : Sl) (r1 : Bool), v = .tuple #[Sl.v r0, .bool r1] ∧ Q r0 r1 H') := by
  unfold keelsonlaw24_all at h
  refine callsH_of_goM Try.func23 rfl Try.ntmps23 (Nat.le_of_ble_eq_true rfl) ?_
  intro D M hM hB hA
  refine Go.seq ?_
  refine Go.region rfl ?_
  refine op_dst rfl rfl (by decide) (do_new zero26 rfl fun a1 H2 hb3 => ?_) 
  have h := h a1 H2 hb3
  refine op_dst rfl rfl (by decide) (do_new zero4 rfl fun a4 H5 hb6 => ?_) 
  have h := h a4 H5 hb6
  refine GoOps.nil ?_
  refine Go.seq ?_
  refine Go.region rfl ?_
  refine GoOps.q (v := .pointer p0) rfl rfl (by decide) (q_move rfl) ?_
  refine call_dst rfl (by decide) body38 (ideal_Ideal_All_s _ _ _ h) rfl ?_
  rintro y8 H7 ⟨_, rfl, h⟩
  refine GoOps.q (v := y8) rfl rfl (by decide) (q_assign rfl) ?_
  refine GoOps.nil ?_
  refine Go.seq ?_
  refine Go.seq ?_
  refine Go.region rfl ?_
  refine GoOps.q (v := y8) rfl rfl (by decide) (q_move rfl) ?_
  obtain ⟨hf9, h⟩ := h
  refine GoOps.q (v := .bool (fisNil y8)) rfl rfl (by decide) (q_eqlFv Try.underlying61 rfl rfl hf9) ?_
  refine GoOps.nil ?_
  rcases bor (fisNil y8) with hc10 | hc10
  · have h := h.1 hc10
    refine Go.condT (btT rfl hc10) ?_
    refine Go.seq ?_
    refine Go.region rfl ?_
    obtain ⟨q12b, q12o, q12c, q12e, hq12a, hq12b, hq12l, hq12v, h⟩ := h
    refine op_none rfl rfl (do_store (vs := [Sl.v Sl.nil]) size26 (pta rfl hq12a) rfl rfl rfl hq12v hq12b hq12l ?_) 
    obtain ⟨q14b, q14o, q14c, q14e, hq14a, hq14b, hq14l, hq14v, h⟩ := h
    refine op_none rfl rfl (do_store (vs := [.bool false]) size4 (pta rfl hq14a) rfl rfl rfl hq14v hq14b hq14l ?_) 
    refine GoOps.nil ?_
    obtain ⟨x15, hx16, h⟩ := h
    obtain ⟨x17, hx18, h⟩ := h
    exact Go.retM (g := ()) hM hB hA ⟨.inl rfl, _, (resOkV2 Try.results23 (rv_cell scalar26 rfl hx16) (rv_cell scalar4 rfl hx18)), ⟨_, _, rfl, h⟩⟩
  · have h := h.2 hc10
    refine Go.condF (btF rfl hc10) ?_
    refine Go.skip ?_
    refine Go.seq ?_
    refine Go.region rfl ?_
    refine op_dst rfl rfl (by decide) (do_new zero26 rfl fun a19 H20 hb21 => ?_) 
    have h := h a19 H20 hb21
    refine GoOps.nil ?_
    refine Go.seq ?_
    refine Go.seq ?_
    refine Go.region rfl ?_
    refine GoOps.q (v := y8) rfl rfl (by decide) (q_move rfl) ?_
    refine GoOps.nil ?_
    refine Go.block ?_
    refine go_range1 (g := ()) (c1 := .ret) h rfl (fun _ _ _ h => h) rfl hM hB hA trivial ?_ ?_ ?_ <;> clear h
    · rintro _ q23 H24 y25 ⟨x26, x27, rfl, h⟩
      refine ⟨rfl, fun lp Bx r hr => ?_⟩
      clear hM hB hA
      intro D M hM hB hA
      refine Go.seq ?_
      refine Go.region rfl ?_
      refine GoOps.q (v := .int .i64 x26) rfl rfl (by decide) (q_assign rfl) ?_
      refine GoOps.nil ?_
      refine Go.region rfl ?_
      refine GoOps.q (v := Sl.v x27) rfl rfl (by decide) (q_assign rfl) ?_
      refine GoOps.nil ?_
      refine go_begin (g := ()) hr hB hA fun M hB hA => ?_
      have hM : Mk (some lp) D M := trivial
      refine Go.block ?_
      refine Go.seq ?_
      refine Go.seq ?_
      refine Go.region rfl ?_
      refine GoOps.q (v := .int .i64 x26) rfl rfl (by decide) (q_move rfl) ?_
      obtain ⟨x28, hx29, h⟩ := h
      refine GoOps.q (v := Sl.v x28) rfl rfl (by decide) (q_load scalar26 rfl hx29) ?_
      refine GoOps.q (v := .int .i64 (x28.len : Int)) rfl rfl (by decide) (q_len Try.underlying26 rfl (ls1 rfl)) ?_
      refine GoOps.q (v := .bool (x26 != (x28.len : Int))) rfl rfl (by decide) (q_neq rfl rfl) ?_
      refine GoOps.q (v := .bool (x26 != (x28.len : Int))) rfl rfl (by decide) (q_move rfl) ?_
      refine join_ops 4 (fun ρ (s31 : Bool) => ρ 2 = .pointer (some a1) ∧ ρ 3 = .pointer (some a4) ∧ ρ 5 = .pointer (some a19) ∧ ρ 7 = Sl.v x27 ∧ ρ 23 = .bool s31) h ?_ ?_ <;> clear h
      · intro s31 H33 ρ h hE
        obtain ⟨e34_2, e34_3, e34_5, e34_7, e34_23⟩ := hE
        refine GoOps.nil ?_
        rcases bor s31 with hc35 | hc35
        · have h := h.1 hc35
          refine Go.condT (btT e34_23 hc35) ?_
          refine Go.seq ?_
          refine Go.region rfl ?_
          obtain ⟨q37b, q37o, q37c, q37e, hq37a, hq37b, hq37l, hq37v, h⟩ := h
          refine op_none rfl rfl (do_store (vs := [Sl.v Sl.nil]) size26 (pta e34_2 hq37a) rfl rfl rfl hq37v hq37b hq37l ?_) 
          obtain ⟨q39b, q39o, q39c, q39e, hq39a, hq39b, hq39l, hq39v, h⟩ := h
          refine op_none rfl rfl (do_store (vs := [.bool false]) size4 (pta e34_3 hq39a) rfl rfl rfl hq39v hq39b hq39l ?_) 
          refine GoOps.nil ?_
          exact Go.retM (g := ()) hM hB hA ⟨1, ⟨0, rfl, rfl⟩, h⟩
        · have h := h.2 hc35
          refine Go.condF (btF e34_23 hc35) ?_
          refine Go.skip ?_
          refine Go.region rfl ?_
          obtain ⟨x40, hx41, h⟩ := h
          refine GoOps.q (v := Sl.v x40) rfl rfl (by decide) (q_load scalar26 e34_5 hx41) ?_
          refine GoOps.q (v := Sl.v x27) rfl rfl (by decide) (q_move e34_7) ?_
          refine op_dst rfl rfl (by decide) (do_bs (ps := [(0, Sl.v x27)]) (zs := [.slice none 0 0]) (cs := [Sl.v x27]) slice26 zero27 rfl rfl (by decide) (by decide) rfl rfl fun r42 H43 hb44 => ?_) 
          have h := h r42 H43 hb44
          refine op_dst rfl rfl (by decide) (do_append (zs := [.slice none 0 0]) slice26 bytes27 (by decide) zero27 rfl rfl (by decide) rfl rfl Try.underlying26 rfl h fun r45 H46 h => ?_) 
          obtain ⟨q48b, q48o, q48c, q48e, hq48a, hq48b, hq48l, hq48v, h⟩ := h
          refine op_none rfl rfl (do_store (vs := [Sl.v r45]) size26 (pta e34_5 hq48a) rfl rfl rfl hq48v hq48b hq48l ?_) 
          refine GoOps.nil ?_
          refine Go.inBlock ?_
          exact Go.fallM (g := ()) hM hB hA ⟨0, rfl, h⟩
      · intro j32 hj32 h
        rcases bor (x26 != (x28.len : Int)) with hc30 | hc30
        · have h := h.1 hc30
          refine no_dst (want_no rfl rfl rfl hc30) rfl (by decide) ?_
          refine no_dst (want_no rfl rfl rfl hc30) rfl (by decide) ?_
          refine no_dst (want_no rfl rfl rfl hc30) rfl (by decide) ?_
          refine GoOps.q (v := .bool true) rfl rfl (by decide) (q_pickT (btT rfl hc30) rfl) ?_
          exact hj32 true _ _ h (by exact ⟨rfl, rfl, rfl, rfl, rfl⟩)
        · have h := h.2 hc30
          obtain ⟨x49, hx50, h⟩ := h
          refine GoOps.q (v := Sl.v x49) (want_yes rfl rfl rfl hc30) rfl (by decide) (q_load scalar26 rfl hx50) ?_
          refine GoOps.q (v := .int .i64 (x49.len : Int)) (want_yes rfl rfl rfl hc30) rfl (by decide) (q_len Try.underlying26 rfl (ls1 rfl)) ?_
          refine GoOps.q (v := .bool (decide (100 < (x49.len : Int)))) (want_yes rfl rfl rfl hc30) rfl (by decide) (q_gtr rfl rfl) ?_
          refine GoOps.q (v := .bool (decide (100 < (x49.len : Int)))) rfl rfl (by decide) (q_pickF (btF rfl hc30) rfl) ?_
          exact hj32 (decide (100 < (x49.len : Int))) _ _ h (by exact ⟨rfl, rfl, rfl, rfl, rfl⟩)
    · intro q52 H53 h
      intro D M hM hB hA
      refine Go.inBlock ?_
      refine Go.seq ?_
      refine Go.region rfl ?_
      obtain ⟨x54, hx55, h⟩ := h
      refine GoOps.q (v := Sl.v x54) rfl rfl (by decide) (q_load scalar26 rfl hx55) ?_
      obtain ⟨q57b, q57o, q57c, q57e, hq57a, hq57b, hq57l, hq57v, h⟩ := h
      refine op_none rfl rfl (do_store (vs := [Sl.v x54]) size26 (pta rfl hq57a) rfl rfl rfl hq57v hq57b hq57l ?_) 
      obtain ⟨q59b, q59o, q59c, q59e, hq59a, hq59b, hq59l, hq59v, h⟩ := h
      refine op_none rfl rfl (do_store (vs := [.bool true]) size4 (pta rfl hq59a) rfl rfl rfl hq59v hq59b hq59l ?_) 
      refine GoOps.nil ?_
      obtain ⟨x60, hx61, h⟩ := h
      obtain ⟨x62, hx63, h⟩ := h
      exact Go.retM (g := ()) hM hB hA ⟨.inl rfl, _, (resOkV2 Try.results23 (rv_cell scalar26 rfl hx61) (rv_cell scalar4 rfl hx63)), ⟨_, _, rfl, h⟩⟩
    · intro q52 H53 h
      intro D M hM hB hA
      obtain ⟨x64, hx65, h⟩ := h
      obtain ⟨x66, hx67, h⟩ := h
      exact Go.retM (g := ()) hM hB hA ⟨.inl rfl, _, (resOkV2 Try.results23 (rv_cell scalar26 rfl hx65) (rv_cell scalar4 rfl hx67)), ⟨_, _, rfl, h⟩⟩

/-- keelson.keelsonalike.Blocks -/
def keelsonalike_Blocks (p0 : Sl) (p1 : Sl) (H : PH) (Q : Bool → PH → Prop) : Prop :=
  mIf ((p0.len : Int) != (p1.len : Int))
  (Q false H)
  (mLoop (fun (s2 : Int) (H5 : PH) (again3 : Int → PH → Prop) =>
  mIf (decide (s2 < (p0.len : Int)))
  (mIdx p0 1 s2 fun a7 =>
  mLd Sl.v H5 a7 fun x9 =>
  mIdx p1 1 s2 fun a11 =>
  mLd Sl.v H5 a11 fun x13 =>
  keelsonalike_Bytes x9 x13 H5 fun y16 H15 =>
  mIf (!y16)
  (Q false H15)
  (again3 (IntKind.wrap .i64 (s2 + 1)) H15))
  (Q true H5))
  0 H)

set_option maxRecDepth 20000 in
set_option maxHeartbeats 1000000 in
theorem keelsonalike_Blocks_s (p0 : Sl) (p1 : Sl) (H : PH) (Q : Bool → PH → Prop) (h : keelsonalike_Blocks p0 p1 H Q) :
    CallsH Try.prog 24 #[Sl.v p0, Sl.v p1] H (fun v H' => ∃ (r0 : Bool), v = .bool r0 ∧ Q r0 H') := by
  unfold keelsonalike_Blocks at h
  refine callsH_of_go Try.func24 rfl Try.ntmps24 (Nat.le_of_ble_eq_true rfl) ?_
  refine Go.seq ?_
  refine Go.region rfl ?_
  refine GoOps.q (v := .bool false) rfl rfl (by decide) (q_assign rfl) ?_
  refine GoOps.nil ?_
  refine Go.seq ?_
  refine Go.seq ?_
  refine Go.region rfl ?_
  refine GoOps.q (v := Sl.v p0) rfl rfl (by decide) (q_move rfl) ?_
  refine GoOps.q (v := .int .i64 (p0.len : Int)) rfl rfl (by decide) (q_len Try.underlying26 rfl (ls1 rfl)) ?_
  refine GoOps.q (v := Sl.v p1) rfl rfl (by decide) (q_move rfl) ?_
  refine GoOps.q (v := .int .i64 (p1.len : Int)) rfl rfl (by decide) (q_len Try.underlying26 rfl (ls1 rfl)) ?_
  refine GoOps.q (v := .bool ((p0.len : Int) != (p1.len : Int))) rfl rfl (by decide) (q_neq rfl rfl) ?_
  refine GoOps.nil ?_
  rcases bor ((p0.len : Int) != (p1.len : Int)) with hc1 | hc1
  · have h := h.1 hc1
    refine Go.condT (btT rfl hc1) ?_
    refine Go.seq ?_
    refine Go.region rfl ?_
    refine GoOps.q (v := .bool false) rfl rfl (by decide) (q_assign rfl) ?_
    refine GoOps.nil ?_
    exact Go.ret ⟨.inl rfl, _, _, DOk.nil, (resOk1 Try.results24 rfl), ⟨_, rfl, h⟩⟩
  · have h := h.2 hc1
    refine Go.condF (btF rfl hc1) ?_
    refine Go.skip ?_
    refine Go.seq ?_
    refine Go.seq ?_
    refine Go.region rfl ?_
    refine GoOps.q (v := .int .i64 0) rfl rfl (by decide) (q_assign rfl) ?_
    refine GoOps.nil ?_
    refine Go.block ?_
    refine loop_go (fun ρ (s2 : Int) => ρ 0 = Sl.v p0 ∧ ρ 1 = Sl.v p1 ∧ ρ 5 = .int .i64 s2) h ⟨rfl, rfl, rfl⟩ ?_
    clear h
    intro ρ s2 H5 again3 hE h hagain3
    obtain ⟨e4_0, e4_1, e4_5⟩ := hE
    refine Go.seq ?_
    refine Go.seq ?_
    refine Go.region rfl ?_
    refine GoOps.q (v := .int .i64 s2) rfl rfl (by decide) (q_move e4_5) ?_
    refine GoOps.q (v := Sl.v p0) rfl rfl (by decide) (q_move e4_0) ?_
    refine GoOps.q (v := .int .i64 (p0.len : Int)) rfl rfl (by decide) (q_len Try.underlying26 rfl (ls1 rfl)) ?_
    refine GoOps.q (v := .bool (decide (s2 < (p0.len : Int)))) rfl rfl (by decide) (q_lss rfl rfl) ?_
    refine GoOps.nil ?_
    rcases bor (decide (s2 < (p0.len : Int))) with hc6 | hc6
    · have h := h.1 hc6
      refine Go.condT (btT rfl hc6) ?_
      refine Go.skip ?_
      refine Go.seq ?_
      refine Go.block ?_
      refine Go.seq ?_
      refine Go.draw mixed ?_
      refine plan_pure (i := 0) (d := 17) (S2 := 1) (v := Sl.v p0) rfl (by decide +kernel) rfl (q_move e4_0) ?_
      refine plan_pure (i := 1) (d := 18) (S2 := 3) (v := .int .i64 s2) rfl (by decide +kernel) rfl (q_move e4_5) ?_
      obtain ⟨a7, ha8, h⟩ := h
      refine plan_pure (i := 2) (d := 19) (S2 := 7) (v := .pointer (some a7)) rfl (by decide +kernel) rfl (q_idx slice26 ha8 rfl rfl) ?_
      obtain ⟨x9, hx10, h⟩ := h
      refine plan_load (i := 3) (d := 20) (S2 := 15) (v := Sl.v x9) rfl (by decide +kernel) rfl (q_load scalar27 rfl hx10) ?_
      refine plan_pure (i := 4) (d := 21) (S2 := 31) (v := Sl.v p1) rfl (by decide +kernel) rfl (q_move e4_1) ?_
      refine plan_pure (i := 5) (d := 22) (S2 := 63) (v := .int .i64 s2) rfl (by decide +kernel) rfl (q_move e4_5) ?_
      obtain ⟨a11, ha12, h⟩ := h
      refine plan_pure (i := 6) (d := 23) (S2 := 127) (v := .pointer (some a11)) rfl (by decide +kernel) rfl (q_idx slice26 ha12 rfl rfl) ?_
      obtain ⟨x13, hx14, h⟩ := h
      refine plan_load (i := 7) (d := 24) (S2 := 255) (v := Sl.v x13) rfl (by decide +kernel) rfl (q_load scalar27 rfl hx14) ?_
      refine plan_one (j := 8) (S2 := 511) (by decide +kernel) rfl (by decide) rfl ?_
      refine do_call2 body12 (keelsonalike_Bytes_s _ _ _ _ h) rfl ?_
      rintro _ H15 ⟨y16, rfl, h⟩
      refine ⟨_, (.inl ⟨⟨[8], by decide +kernel, rfl⟩, .inl ⟨⟨[8], by decide +kernel, rfl⟩, rfl⟩⟩), ?_⟩
      refine plan_pure (i := 9) (d := 26) (S2 := 1023) (v := .bool (!y16)) rfl (by decide +kernel) rfl (q_not rfl) ?_
      refine plan_done (by decide +kernel) ?_
      rcases bor (!y16) with hc17 | hc17
      · have h := h.1 hc17
        refine Go.condT (btT rfl hc17) ?_
        refine Go.seq ?_
        refine Go.region rfl ?_
        refine GoOps.q (v := .bool false) rfl rfl (by decide) (q_assign rfl) ?_
        refine GoOps.nil ?_
        exact Go.ret ⟨.inl rfl, _, _, DOk.nil, (resOk1 Try.results24 rfl), ⟨_, rfl, h⟩⟩
      · have h := h.2 hc17
        refine Go.condF (btF rfl hc17) ?_
        refine Go.skip ?_
        refine Go.inBlock ?_
        refine Go.region rfl ?_
        refine GoOps.q (v := .int .i64 s2) rfl rfl (by decide) (q_move e4_5) ?_
        refine GoOps.q (v := .int .i64 (IntKind.wrap .i64 (s2 + 1))) rfl rfl (by decide) (q_add rfl rfl) ?_
        refine GoOps.q (v := .int .i64 (IntKind.wrap .i64 (s2 + 1))) rfl rfl (by decide) (q_assign rfl) ?_
        refine GoOps.nil ?_
        exact hagain3 _ _ _ h ⟨e4_0, e4_1, rfl⟩
    · have h := h.2 hc6
      refine Go.condF (btF rfl hc6) ?_
      refine Go.exit rfl ?_
      refine Go.seq ?_
      refine Go.region rfl ?_
      refine GoOps.q (v := .bool true) rfl rfl (by decide) (q_assign rfl) ?_
      refine GoOps.nil ?_
      exact Go.ret ⟨.inl rfl, _, _, DOk.nil, (resOk1 Try.results24 rfl), ⟨_, rfl, h⟩⟩


end Go.Proofs.Ytfjpapddfdhhlaa

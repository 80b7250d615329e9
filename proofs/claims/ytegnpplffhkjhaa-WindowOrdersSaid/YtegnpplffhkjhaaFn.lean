import Derived.Test.YtegnpplffhkjhaaFnp1
set_option linter.unusedVariables false
set_option linter.unusedSimpArgs false
namespace Go.Proofs.Ytegnpplffhkjhaa
open Go Go.Kx Go.Proofs
/-- (*keelson.keelsonref22.Window).place -/
def keelsonref22_Window_place (p0 : Option Addr) (p1 : Int) (H : PH) (Q : Int → Bool → PH → Prop) : Prop :=
  mLoop (fun (s1 : Int) (H4 : PH) (again2 : Int → PH → Prop) =>
  mNil p0 fun a5 =>
  mLd Sl.v H4 (a5.add 2) fun x7 =>
  mJoin (fun (s10 : Bool) (H12 : PH) =>
  mIf s10
  (again2 (IntKind.wrap .i64 (s1 + 1)) H12)
  (mNil p0 fun a15 =>
  mLd Sl.v H12 (a15.add 2) fun x17 =>
  mJoin (fun (s20 : Bool) (H22 : PH) =>
  Q s1 s20 H22)
  fun j21 =>
  mIf (decide (s1 < (x17.len : Int)))
  (mNil p0 fun a24 =>
  mLd Sl.v H12 (a24.add 2) fun x26 =>
  mIdx x26 6 s1 fun a28 =>
  mLd (.int .i64) H12 (a28.add 0) fun x30 =>
  j21 (x30 == p1) H12)
  (j21 false H12)))
  fun j11 =>
  mIf (decide (s1 < (x7.len : Int)))
  (mNil p0 fun a32 =>
  mLd Sl.v H4 (a32.add 2) fun x34 =>
  mIdx x34 6 s1 fun a36 =>
  mLd (.int .i64) H4 (a36.add 0) fun x38 =>
  j11 (decide (x38 < p1)) H4)
  (j11 false H4))
  0 H

set_option maxRecDepth 20000 in
set_option maxHeartbeats 1000000 in
theorem keelsonref22_Window_place_s (p0 : Option Addr) (p1 : Int) (H : PH) (Q : Int → Bool → PH → Prop) (h : keelsonref22_Window_place p0 p1 H Q) :
    CallsH Try.prog 31 #[.pointer p0, .int .i64 p1] H (fun v H' => ∃ (r0 : Int) (r1 : Bool), v = .tuple #[.int .i64 r0, .bool r1] ∧ Q r0 r1 H') := by
  unfold keelsonref22_Window_place at h
  refine callsH_of_go Try.func31 rfl Try.ntmps31 (Nat.le_of_ble_eq_true rfl) ?_
  refine Go.seq ?_
  refine Go.region rfl ?_
  refine GoOps.q (v := .int .i64 0) rfl rfl (by decide) (q_assign rfl) ?_
  refine GoOps.q (v := .bool false) rfl rfl (by decide) (q_assign rfl) ?_
  refine GoOps.nil ?_
  refine Go.seq ?_
  refine Go.region rfl ?_
  refine GoOps.q (v := .int .i64 0) rfl rfl (by decide) (q_assign rfl) ?_
  refine GoOps.nil ?_
  refine Go.seq ?_
  refine Go.block ?_
  refine loop_go (fun ρ (s1 : Int) => ρ 0 = .pointer p0 ∧ ρ 1 = .int .i64 p1 ∧ ρ 6 = .int .i64 s1) h ⟨rfl, rfl, rfl⟩ ?_
  clear h
  intro ρ s1 H4 again2 hE h hagain2
  obtain ⟨e3_0, e3_1, e3_6⟩ := hE
  refine Go.seq ?_
  refine Go.seq ?_
  refine Go.region rfl ?_
  refine GoOps.q (v := .int .i64 s1) rfl rfl (by decide) (q_move e3_6) ?_
  refine GoOps.q (v := .pointer p0) rfl rfl (by decide) (q_move e3_0) ?_
  obtain ⟨a5, ha6, h⟩ := h
  refine GoOps.q (v := .pointer (some a5)) rfl rfl (by decide) (q_nilCheck (ptn rfl ha6)) ?_
  refine GoOps.q (v := .pointer (some (a5.add 2))) rfl rfl (by decide) (q_fieldAddr foff52_2 rfl) ?_
  obtain ⟨x7, hx8, h⟩ := h
  refine GoOps.q (v := Sl.v x7) rfl rfl (by decide) (q_load scalar50 rfl hx8) ?_
  refine GoOps.q (v := .int .i64 (x7.len : Int)) rfl rfl (by decide) (q_len Try.underlying50 rfl (ls1 rfl)) ?_
  refine GoOps.q (v := .bool (decide (s1 < (x7.len : Int)))) rfl rfl (by decide) (q_lss rfl rfl) ?_
  refine GoOps.q (v := .bool (decide (s1 < (x7.len : Int)))) rfl rfl (by decide) (q_move rfl) ?_
  refine join_ops 11 (fun ρ (s10 : Bool) => ρ 0 = .pointer p0 ∧ ρ 1 = .int .i64 p1 ∧ ρ 6 = .int .i64 s1 ∧ ρ 25 = .bool s10) h ?_ ?_ <;> clear h
  · intro s10 H12 ρ h hE
    obtain ⟨e13_0, e13_1, e13_6, e13_25⟩ := hE
    refine GoOps.nil ?_
    rcases bor s10 with hc14 | hc14
    · have h := h.1 hc14
      refine Go.condT (btT e13_25 hc14) ?_
      refine Go.skip ?_
      refine Go.block ?_
      refine Go.region rfl ?_
      refine GoOps.q (v := .int .i64 s1) rfl rfl (by decide) (q_move e13_6) ?_
      refine GoOps.q (v := .int .i64 (IntKind.wrap .i64 (s1 + 1))) rfl rfl (by decide) (q_add rfl rfl) ?_
      refine GoOps.q (v := .int .i64 (IntKind.wrap .i64 (s1 + 1))) rfl rfl (by decide) (q_assign rfl) ?_
      refine GoOps.nil ?_
      refine Go.inBlock ?_
      exact hagain2 _ _ _ h ⟨e13_0, e13_1, rfl⟩
    · have h := h.2 hc14
      refine Go.condF (btF e13_25 hc14) ?_
      refine Go.exit rfl ?_
      refine Go.seq ?_
      refine Go.draw mixed ?_
      refine plan_pure (i := 0) (d := 28) (S2 := 1) (v := .int .i64 s1) rfl (by decide +kernel) rfl (q_move e13_6) ?_
      refine plan_pure (i := 1) (d := 29) (S2 := 3) (v := .int .i64 s1) rfl (by decide +kernel) rfl (q_move e13_6) ?_
      refine plan_pure (i := 2) (d := 30) (S2 := 7) (v := .pointer p0) rfl (by decide +kernel) rfl (q_move e13_0) ?_
      obtain ⟨a15, ha16, h⟩ := h
      refine plan_pure (i := 3) (d := 31) (S2 := 15) (v := .pointer (some a15)) rfl (by decide +kernel) rfl (q_nilCheck (ptn rfl ha16)) ?_
      refine plan_pure (i := 4) (d := 32) (S2 := 31) (v := .pointer (some (a15.add 2))) rfl (by decide +kernel) rfl (q_fieldAddr foff52_2 rfl) ?_
      obtain ⟨x17, hx18, h⟩ := h
      refine plan_load (i := 5) (d := 33) (S2 := 63) (v := Sl.v x17) rfl (by decide +kernel) rfl (q_load scalar50 rfl hx18) ?_
      refine plan_pure (i := 6) (d := 34) (S2 := 127) (v := .int .i64 (x17.len : Int)) rfl (by decide +kernel) rfl (q_len Try.underlying50 rfl (ls1 rfl)) ?_
      refine plan_pure (i := 7) (d := 35) (S2 := 255) (v := .bool (decide (s1 < (x17.len : Int)))) rfl (by decide +kernel) rfl (q_lss rfl rfl) ?_
      refine plan_pure (i := 8) (d := 36) (S2 := 511) (v := .bool (decide (s1 < (x17.len : Int)))) rfl (by decide +kernel) rfl (q_move rfl) ?_
      refine plan_pure (i := 20) (d := 4) (S2 := 1049087) (v := .int .i64 s1) rfl (by decide +kernel) rfl (q_assign rfl) ?_
      refine join_plan 2097151 [16, 12, 5] (fun ρ (s20 : Bool) => ρ 4 = .int .i64 s1 ∧ ρ 47 = .bool s20) h ?_ ?_ <;> clear h
      · intro s20 H22 ρ h hE
        obtain ⟨e23_4, e23_47⟩ := hE
        refine plan_pure (i := 21) (d := 5) (S2 := 4194303) (v := .bool s20) rfl (by decide +kernel) rfl (q_assign e23_47) ?_
        refine plan_done (by decide +kernel) ?_
        exact Go.ret ⟨.inl rfl, _, _, DOk.nil, (resOk2 Try.results31 e23_4 rfl), ⟨_, _, rfl, h⟩⟩
      · intro j21 hj21 h
        rcases bor (decide (s1 < (x17.len : Int))) with hc19 | hc19
        · have h := h.1 hc19
          refine plan_pure (i := 9) (d := 37) (S2 := 1049599) (v := .pointer p0) rfl (by decide +kernel) (want_yes rfl rfl rfl hc19) (q_move e13_0) ?_
          obtain ⟨a24, ha25, h⟩ := h
          refine plan_pure (i := 10) (d := 38) (S2 := 1050623) (v := .pointer (some a24)) rfl (by decide +kernel) (want_yes rfl rfl rfl hc19) (q_nilCheck (ptn rfl ha25)) ?_
          refine plan_pure (i := 11) (d := 39) (S2 := 1052671) (v := .pointer (some (a24.add 2))) rfl (by decide +kernel) (want_yes rfl rfl rfl hc19) (q_fieldAddr foff52_2 rfl) ?_
          obtain ⟨x26, hx27, h⟩ := h
          refine plan_load (i := 12) (d := 40) (S2 := 1056767) (v := Sl.v x26) rfl (by decide +kernel) (want_yes rfl rfl rfl hc19) (q_load scalar50 rfl hx27) ?_
          refine plan_pure (i := 13) (d := 41) (S2 := 1064959) (v := .int .i64 s1) rfl (by decide +kernel) (want_yes rfl rfl rfl hc19) (q_move e13_6) ?_
          obtain ⟨a28, ha29, h⟩ := h
          refine plan_pure (i := 14) (d := 42) (S2 := 1081343) (v := .pointer (some a28)) rfl (by decide +kernel) (want_yes rfl rfl rfl hc19) (q_idx slice50 ha29 rfl rfl) ?_
          refine plan_pure (i := 15) (d := 43) (S2 := 1114111) (v := .pointer (some (a28.add 0))) rfl (by decide +kernel) (want_yes rfl rfl rfl hc19) (q_fieldAddr foff68_0 rfl) ?_
          obtain ⟨x30, hx31, h⟩ := h
          refine plan_load (i := 16) (d := 44) (S2 := 1179647) (v := .int .i64 x30) rfl (by decide +kernel) (want_yes rfl rfl rfl hc19) (q_load scalar3 rfl hx31) ?_
          refine plan_pure (i := 17) (d := 45) (S2 := 1310719) (v := .int .i64 p1) rfl (by decide +kernel) (want_yes rfl rfl rfl hc19) (q_move e13_1) ?_
          refine plan_pure (i := 18) (d := 46) (S2 := 1572863) (v := .bool (x30 == p1)) rfl (by decide +kernel) (want_yes rfl rfl rfl hc19) (q_eql rfl rfl) ?_
          refine plan_pure (i := 19) (d := 47) (S2 := 2097151) (v := .bool (x30 == p1)) rfl (by decide +kernel) rfl (q_pickT (btT rfl hc19) rfl) ?_
          exact hj21 _ _ _ h ⟨rfl, rfl⟩
        · have h := h.2 hc19
          refine plan_skip (i := 9) (d := 37) (S2 := 1049599) rfl (by decide +kernel) (want_no rfl rfl rfl hc19) ?_
          refine plan_skip (i := 10) (d := 38) (S2 := 1050623) rfl (by decide +kernel) (want_no rfl rfl rfl hc19) ?_
          refine plan_skip (i := 11) (d := 39) (S2 := 1052671) rfl (by decide +kernel) (want_no rfl rfl rfl hc19) ?_
          refine plan_skip (i := 12) (d := 40) (S2 := 1056767) rfl (by decide +kernel) (want_no rfl rfl rfl hc19) ?_
          refine plan_skip (i := 13) (d := 41) (S2 := 1064959) rfl (by decide +kernel) (want_no rfl rfl rfl hc19) ?_
          refine plan_skip (i := 14) (d := 42) (S2 := 1081343) rfl (by decide +kernel) (want_no rfl rfl rfl hc19) ?_
          refine plan_skip (i := 15) (d := 43) (S2 := 1114111) rfl (by decide +kernel) (want_no rfl rfl rfl hc19) ?_
          refine plan_skip (i := 16) (d := 44) (S2 := 1179647) rfl (by decide +kernel) (want_no rfl rfl rfl hc19) ?_
          refine plan_skip (i := 17) (d := 45) (S2 := 1310719) rfl (by decide +kernel) (want_no rfl rfl rfl hc19) ?_
          refine plan_skip (i := 18) (d := 46) (S2 := 1572863) rfl (by decide +kernel) (want_no rfl rfl rfl hc19) ?_
          refine plan_pure (i := 19) (d := 47) (S2 := 2097151) (v := .bool false) rfl (by decide +kernel) rfl (q_pickF (btF rfl hc19) rfl) ?_
          refine plan_weaken (L2 := [16, 12, 5]) (by decide) ?_
          exact hj21 _ _ _ h ⟨rfl, rfl⟩
  · intro j11 hj11 h
    rcases bor (decide (s1 < (x7.len : Int))) with hc9 | hc9
    · have h := h.1 hc9
      refine GoOps.q (v := .pointer p0) (want_yes rfl rfl rfl hc9) rfl (by decide) (q_move e3_0) ?_
      obtain ⟨a32, ha33, h⟩ := h
      refine GoOps.q (v := .pointer (some a32)) (want_yes rfl rfl rfl hc9) rfl (by decide) (q_nilCheck (ptn rfl ha33)) ?_
      refine GoOps.q (v := .pointer (some (a32.add 2))) (want_yes rfl rfl rfl hc9) rfl (by decide) (q_fieldAddr foff52_2 rfl) ?_
      obtain ⟨x34, hx35, h⟩ := h
      refine GoOps.q (v := Sl.v x34) (want_yes rfl rfl rfl hc9) rfl (by decide) (q_load scalar50 rfl hx35) ?_
      refine GoOps.q (v := .int .i64 s1) (want_yes rfl rfl rfl hc9) rfl (by decide) (q_move e3_6) ?_
      obtain ⟨a36, ha37, h⟩ := h
      refine GoOps.q (v := .pointer (some a36)) (want_yes rfl rfl rfl hc9) rfl (by decide) (q_idx slice50 ha37 rfl rfl) ?_
      refine GoOps.q (v := .pointer (some (a36.add 0))) (want_yes rfl rfl rfl hc9) rfl (by decide) (q_fieldAddr foff68_0 rfl) ?_
      obtain ⟨x38, hx39, h⟩ := h
      refine GoOps.q (v := .int .i64 x38) (want_yes rfl rfl rfl hc9) rfl (by decide) (q_load scalar3 rfl hx39) ?_
      refine GoOps.q (v := .int .i64 p1) (want_yes rfl rfl rfl hc9) rfl (by decide) (q_move e3_1) ?_
      refine GoOps.q (v := .bool (decide (x38 < p1))) (want_yes rfl rfl rfl hc9) rfl (by decide) (q_lss rfl rfl) ?_
      refine GoOps.q (v := .bool (decide (x38 < p1))) rfl rfl (by decide) (q_pickT (btT rfl hc9) rfl) ?_
      exact hj11 (decide (x38 < p1)) _ _ h (by exact ⟨e3_0, e3_1, e3_6, rfl⟩)
    · have h := h.2 hc9
      refine no_dst (want_no rfl rfl rfl hc9) rfl (by decide) ?_
      refine no_dst (want_no rfl rfl rfl hc9) rfl (by decide) ?_
      refine no_dst (want_no rfl rfl rfl hc9) rfl (by decide) ?_
      refine no_dst (want_no rfl rfl rfl hc9) rfl (by decide) ?_
      refine no_dst (want_no rfl rfl rfl hc9) rfl (by decide) ?_
      refine no_dst (want_no rfl rfl rfl hc9) rfl (by decide) ?_
      refine no_dst (want_no rfl rfl rfl hc9) rfl (by decide) ?_
      refine no_dst (want_no rfl rfl rfl hc9) rfl (by decide) ?_
      refine no_dst (want_no rfl rfl rfl hc9) rfl (by decide) ?_
      refine no_dst (want_no rfl rfl rfl hc9) rfl (by decide) ?_
      refine GoOps.q (v := .bool false) rfl rfl (by decide) (q_pickF (btF rfl hc9) rfl) ?_
      exact hj11 false _ _ h (by exact ⟨e3_0, e3_1, e3_6, rfl⟩)

/-- (*keelson.keelsonref22.Window).Put -/
def keelsonref22_Window_Put (p0 : Option Addr) (p1 : Int) (p2 : (Int × Int × Int × Int × Sl)) (H : PH) (Q : Int → PH → Prop) : Prop :=
  mNew H (row [.int .i64 p2.1, .int .i64 p2.2.1, .int .i64 p2.2.2.1, .int .i64 p2.2.2.2.1, Sl.v p2.2.2.2.2] 46) fun a1 H2 =>
  keelsonref22_Window_place p0 p1 H2 fun y5 y6 H4 =>
  mNil p0 fun a7 =>
  mLd (.int .i64) H4 (a7.add 1) fun x9 =>
  mJoin (fun (s12 : Bool) (H14 : PH) =>
  mIf s12
  (Q 9 H14)
  (mNil p0 fun a17 =>
  mLd (.int .i64) H14 (a17.add 1) fun x19 =>
  mNil p0 fun a21 =>
  mLd (.int .i64) H14 (a21.add 0) fun x23 =>
  mIf (decide (x23 ≤ (IntKind.wrap .i64 (p1 - x19))))
  (Q 10 H14)
  (mNewS H14 (row [] 68) 0 fun r26 H27 =>
  mNil p0 fun a29 =>
  mLd Sl.v H27 (a29.add 2) fun x31 =>
  mCut x31 6 0 y5 fun r34 =>
  mApp H27 68 6 64 [.int .i64 0, .int .i64 0, .int .i64 0, .int .i64 0, .int .i64 0, .slice none 0 0] r26 r34 fun r35 H36 =>
  mLdR (fun (x : (Int × Int × Int × Int × Sl)) => [.int .i64 x.1, .int .i64 x.2.1, .int .i64 x.2.2.1, .int .i64 x.2.2.2.1, Sl.v x.2.2.2.2]) H36 a1 5 fun x37 =>
  mNewS H36 (row [.int .i64 p1, .int .i64 x37.1, .int .i64 x37.2.1, .int .i64 x37.2.2.1, .int .i64 x37.2.2.2.1, Sl.v x37.2.2.2.2] 68) 1 fun r39 H40 =>
  mApp H40 68 6 64 [.int .i64 0, .int .i64 0, .int .i64 0, .int .i64 0, .int .i64 0, .slice none 0 0] r35 r39 fun r42 H43 =>
  mNil p0 fun a44 =>
  mLd Sl.v H43 (a44.add 2) fun x46 =>
  mCut x46 6 y5 (x46.len : Int) fun r49 =>
  mApp H43 68 6 64 [.int .i64 0, .int .i64 0, .int .i64 0, .int .i64 0, .int .i64 0, .slice none 0 0] r42 r49 fun r50 H51 =>
  mNil p0 fun a52 =>
  mSt H51 (a52.add 2) ([Sl.v r50]) fun H54 =>
  Q 0 H54)))
  fun j13 =>
  mIf (decide (p1 < x9))
  (j13 true H4)
  (j13 y6 H4)

set_option maxRecDepth 20000 in
set_option maxHeartbeats 1000000 in
theorem keelsonref22_Window_Put_s (p0 : Option Addr) (p1 : Int) (p2 : (Int × Int × Int × Int × Sl)) (H : PH) (Q : Int → PH → Prop) (h : keelsonref22_Window_Put p0 p1 p2 H Q) :
    CallsH Try.prog 17 #[.pointer p0, .int .i64 p1, .agg ([.int .i64 p2.1, .int .i64 p2.2.1, .int .i64 p2.2.2.1, .int .i64 p2.2.2.2.1, Sl.v p2.2.2.2.2] : List Value).toArray] H (fun v H' => ∃ (r0 : Int), v = .int .i64 r0 ∧ Q r0 H') := by
  unfold keelsonref22_Window_Put at h
  refine callsH_of_go Try.func17 rfl Try.ntmps17 (Nat.le_of_ble_eq_true rfl) ?_
  refine Go.seq ?_
  refine Go.region rfl ?_
  refine op_dst rfl rfl (by decide) (do_newBox (cs := [.int .i64 p2.1, .int .i64 p2.2.1, .int .i64 p2.2.2.1, .int .i64 p2.2.2.2.1, Sl.v p2.2.2.2.2]) rfl rfl fun a1 H2 hb3 => ?_) 
  have h := h a1 H2 hb3
  refine GoOps.q (v := .int .i64 0) rfl rfl (by decide) (q_assign rfl) ?_
  refine GoOps.nil ?_
  refine Go.seq ?_
  refine Go.region rfl ?_
  refine GoOps.q (v := .pointer p0) rfl rfl (by decide) (q_move rfl) ?_
  refine GoOps.q (v := .int .i64 p1) rfl rfl (by decide) (q_move rfl) ?_
  refine call_dst rfl (by decide) body31 (keelsonref22_Window_place_s _ _ _ _ h) rfl ?_
  rintro _ H4 ⟨y5, y6, rfl, h⟩
  refine GoOps.q (v := .tuple #[.int .i64 y5, .bool y6]) rfl rfl (by decide) (q_move rfl) ?_
  refine GoOps.q (v := .int .i64 y5) rfl rfl (by decide) (q_extract rfl rfl) ?_
  refine GoOps.q (v := .bool y6) rfl rfl (by decide) (q_extract rfl rfl) ?_
  refine GoOps.q (v := .int .i64 y5) rfl rfl (by decide) (q_assign rfl) ?_
  refine GoOps.q (v := .bool y6) rfl rfl (by decide) (q_assign rfl) ?_
  refine GoOps.nil ?_
  refine Go.seq ?_
  refine Go.seq ?_
  refine Go.region rfl ?_
  refine GoOps.q (v := .int .i64 p1) rfl rfl (by decide) (q_move rfl) ?_
  refine GoOps.q (v := .pointer p0) rfl rfl (by decide) (q_move rfl) ?_
  obtain ⟨a7, ha8, h⟩ := h
  refine GoOps.q (v := .pointer (some a7)) rfl rfl (by decide) (q_nilCheck (ptn rfl ha8)) ?_
  refine GoOps.q (v := .pointer (some (a7.add 1))) rfl rfl (by decide) (q_fieldAddr foff52_1 rfl) ?_
  obtain ⟨x9, hx10, h⟩ := h
  refine GoOps.q (v := .int .i64 x9) rfl rfl (by decide) (q_load scalar3 rfl hx10) ?_
  refine GoOps.q (v := .bool (decide (p1 < x9))) rfl rfl (by decide) (q_lss rfl rfl) ?_
  refine GoOps.q (v := .bool (decide (p1 < x9))) rfl rfl (by decide) (q_move rfl) ?_
  refine join_ops 2 (fun ρ (s12 : Bool) => ρ 0 = .pointer p0 ∧ ρ 1 = .int .i64 p1 ∧ ρ 5 = .pointer (some a1) ∧ ρ 7 = .int .i64 y5 ∧ ρ 24 = .bool s12) h ?_ ?_ <;> clear h
  · intro s12 H14 ρ h hE
    obtain ⟨e15_0, e15_1, e15_5, e15_7, e15_24⟩ := hE
    refine GoOps.nil ?_
    rcases bor s12 with hc16 | hc16
    · have h := h.1 hc16
      refine Go.condT (btT e15_24 hc16) ?_
      refine Go.seq ?_
      refine Go.region rfl ?_
      refine GoOps.q (v := .int .i64 9) rfl rfl (by decide) (q_assign rfl) ?_
      refine GoOps.nil ?_
      exact Go.ret ⟨.inl rfl, _, _, DOk.nil, (resOk1 Try.results17 rfl), ⟨_, rfl, h⟩⟩
    · have h := h.2 hc16
      refine Go.condF (btF e15_24 hc16) ?_
      refine Go.skip ?_
      refine Go.seq ?_
      refine Go.seq ?_
      refine Go.draw mixed ?_
      refine plan_pure (i := 0) (d := 25) (S2 := 1) (v := .int .i64 p1) rfl (by decide +kernel) rfl (q_move e15_1) ?_
      refine plan_pure (i := 1) (d := 26) (S2 := 3) (v := .pointer p0) rfl (by decide +kernel) rfl (q_move e15_0) ?_
      obtain ⟨a17, ha18, h⟩ := h
      refine plan_pure (i := 2) (d := 27) (S2 := 7) (v := .pointer (some a17)) rfl (by decide +kernel) rfl (q_nilCheck (ptn rfl ha18)) ?_
      refine plan_pure (i := 3) (d := 28) (S2 := 15) (v := .pointer (some (a17.add 1))) rfl (by decide +kernel) rfl (q_fieldAddr foff52_1 rfl) ?_
      obtain ⟨x19, hx20, h⟩ := h
      refine plan_load (i := 4) (d := 29) (S2 := 31) (v := .int .i64 x19) rfl (by decide +kernel) rfl (q_load scalar3 rfl hx20) ?_
      refine plan_pure (i := 5) (d := 30) (S2 := 63) (v := .int .i64 (IntKind.wrap .i64 (p1 - x19))) rfl (by decide +kernel) rfl (q_sub rfl rfl) ?_
      refine plan_pure (i := 6) (d := 31) (S2 := 127) (v := .pointer p0) rfl (by decide +kernel) rfl (q_move e15_0) ?_
      obtain ⟨a21, ha22, h⟩ := h
      refine plan_pure (i := 7) (d := 32) (S2 := 255) (v := .pointer (some a21)) rfl (by decide +kernel) rfl (q_nilCheck (ptn rfl ha22)) ?_
      refine plan_pure (i := 8) (d := 33) (S2 := 511) (v := .pointer (some (a21.add 0))) rfl (by decide +kernel) rfl (q_fieldAddr foff52_0 rfl) ?_
      obtain ⟨x23, hx24, h⟩ := h
      refine plan_load (i := 9) (d := 34) (S2 := 1023) (v := .int .i64 x23) rfl (by decide +kernel) rfl (q_load scalar3 rfl hx24) ?_
      refine plan_pure (i := 10) (d := 35) (S2 := 2047) (v := .bool (decide (x23 ≤ (IntKind.wrap .i64 (p1 - x19))))) rfl (by decide +kernel) rfl (q_geq rfl rfl) ?_
      refine plan_done (by decide +kernel) ?_
      rcases bor (decide (x23 ≤ (IntKind.wrap .i64 (p1 - x19)))) with hc25 | hc25
      · have h := h.1 hc25
        refine Go.condT (btT rfl hc25) ?_
        refine Go.seq ?_
        refine Go.region rfl ?_
        refine GoOps.q (v := .int .i64 10) rfl rfl (by decide) (q_assign rfl) ?_
        refine GoOps.nil ?_
        exact Go.ret ⟨.inl rfl, _, _, DOk.nil, (resOk1 Try.results17 rfl), ⟨_, rfl, h⟩⟩
      · have h := h.2 hc25
        refine Go.condF (btF rfl hc25) ?_
        refine Go.skip ?_
        refine Go.seq ?_
        refine Go.region rfl ?_
        refine op_dst rfl rfl (by decide) (do_bs0 slice50 fun r26 H27 hb28 => ?_) 
        have h := h r26 H27 hb28
        refine GoOps.q (v := .pointer p0) rfl rfl (by decide) (q_move e15_0) ?_
        obtain ⟨a29, ha30, h⟩ := h
        refine GoOps.q (v := .pointer (some a29)) rfl rfl (by decide) (q_nilCheck (ptn rfl ha30)) ?_
        refine GoOps.q (v := .pointer (some (a29.add 2))) rfl rfl (by decide) (q_fieldAddr foff52_2 rfl) ?_
        obtain ⟨x31, hx32, h⟩ := h
        refine GoOps.q (v := Sl.v x31) rfl rfl (by decide) (q_load scalar50 rfl hx32) ?_
        refine GoOps.q (v := .int .i64 y5) rfl rfl (by decide) (q_move e15_7) ?_
        obtain ⟨r34, hm33, h⟩ := h
        refine GoOps.q (v := Sl.v r34) rfl rfl (by decide) (q_cut slice50 hm33 rfl rfl ⟨_, rfl⟩) ?_
        refine op_dst rfl rfl (by decide) (do_append (zs := [.int .i64 0, .int .i64 0, .int .i64 0, .int .i64 0, .int .i64 0, .slice none 0 0]) slice50 bytes68 (by decide) zero68 rfl rfl (by decide) rfl rfl Try.underlying50 rfl h fun r35 H36 h => ?_) 
        refine GoOps.q (v := Sl.v r35) rfl rfl (by decide) (q_assign rfl) ?_
        refine GoOps.nil ?_
        refine Go.seq ?_
        refine Go.region rfl ?_
        refine GoOps.q (v := Sl.v r35) rfl rfl (by decide) (q_move rfl) ?_
        refine GoOps.q (v := .int .i64 p1) rfl rfl (by decide) (q_move e15_1) ?_
        obtain ⟨x37, hx38, h⟩ := h
        refine GoOps.q (v := .agg ([.int .i64 x37.1, .int .i64 x37.2.1, .int .i64 x37.2.2.1, .int .i64 x37.2.2.2.1, Sl.v x37.2.2.2.2] : List Value).toArray) rfl rfl (by decide) (q_loadA aggr46 e15_5 hx38) ?_
        refine GoOps.q (v := .agg ([.int .i64 p1, .int .i64 x37.1, .int .i64 x37.2.1, .int .i64 x37.2.2.1, .int .i64 x37.2.2.2.1, Sl.v x37.2.2.2.2] : List Value).toArray) rfl rfl (by decide) (q_build (ps := [(0, .int .i64 p1), (1, .agg ([.int .i64 x37.1, .int .i64 x37.2.1, .int .i64 x37.2.2.1, .int .i64 x37.2.2.2.1, Sl.v x37.2.2.2.2] : List Value).toArray)]) (cs := [.int .i64 p1, .int .i64 x37.1, .int .i64 x37.2.1, .int .i64 x37.2.2.1, .int .i64 x37.2.2.2.1, Sl.v x37.2.2.2.2]) places68 zero68 rfl rfl rfl) ?_
        refine op_dst rfl rfl (by decide) (do_bs (ps := [(0, .agg ([.int .i64 p1, .int .i64 x37.1, .int .i64 x37.2.1, .int .i64 x37.2.2.1, .int .i64 x37.2.2.2.1, Sl.v x37.2.2.2.2] : List Value).toArray)]) (zs := [.int .i64 0, .int .i64 0, .int .i64 0, .int .i64 0, .int .i64 0, .slice none 0 0]) (cs := [.int .i64 p1, .int .i64 x37.1, .int .i64 x37.2.1, .int .i64 x37.2.2.1, .int .i64 x37.2.2.2.1, Sl.v x37.2.2.2.2]) slice50 zero68 rfl rfl (by decide) (by decide) rfl (fillS_cat (tot := 6) (css := [[.int .i64 p1, .int .i64 x37.1, .int .i64 x37.2.1, .int .i64 x37.2.2.1, .int .i64 x37.2.2.2.1, Sl.v x37.2.2.2.2]]) (.cons rfl rfl rfl (.nil rfl)) rfl) fun r39 H40 hb41 => ?_) 
        have h := h r39 H40 hb41
        refine op_dst rfl rfl (by decide) (do_append (zs := [.int .i64 0, .int .i64 0, .int .i64 0, .int .i64 0, .int .i64 0, .slice none 0 0]) slice50 bytes68 (by decide) zero68 rfl rfl (by decide) rfl rfl Try.underlying50 rfl h fun r42 H43 h => ?_) 
        refine GoOps.q (v := Sl.v r42) rfl rfl (by decide) (q_assign rfl) ?_
        refine GoOps.nil ?_
        refine Go.seq ?_
        refine Go.region rfl ?_
        refine GoOps.q (v := .pointer p0) rfl rfl (by decide) (q_move e15_0) ?_
        refine GoOps.q (v := Sl.v r42) rfl rfl (by decide) (q_move rfl) ?_
        refine GoOps.q (v := .pointer p0) rfl rfl (by decide) (q_move e15_0) ?_
        obtain ⟨a44, ha45, h⟩ := h
        refine GoOps.q (v := .pointer (some a44)) rfl rfl (by decide) (q_nilCheck (ptn rfl ha45)) ?_
        refine GoOps.q (v := .pointer (some (a44.add 2))) rfl rfl (by decide) (q_fieldAddr foff52_2 rfl) ?_
        obtain ⟨x46, hx47, h⟩ := h
        refine GoOps.q (v := Sl.v x46) rfl rfl (by decide) (q_load scalar50 rfl hx47) ?_
        refine GoOps.q (v := .int .i64 y5) rfl rfl (by decide) (q_move e15_7) ?_
        obtain ⟨r49, hm48, h⟩ := h
        refine GoOps.q (v := Sl.v r49) rfl rfl (by decide) (q_cut slice50 hm48 rfl ⟨_, rfl⟩ rfl) ?_
        refine op_dst rfl rfl (by decide) (do_append (zs := [.int .i64 0, .int .i64 0, .int .i64 0, .int .i64 0, .int .i64 0, .slice none 0 0]) slice50 bytes68 (by decide) zero68 rfl rfl (by decide) rfl rfl Try.underlying50 rfl h fun r50 H51 h => ?_) 
        obtain ⟨a52, ha53, h⟩ := h
        refine GoOps.q (v := .pointer (some a52)) rfl rfl (by decide) (q_nilCheck (ptn rfl ha53)) ?_
        refine GoOps.q (v := .pointer (some (a52.add 2))) rfl rfl (by decide) (q_fieldAddr foff52_2 rfl) ?_
        obtain ⟨q55b, q55o, q55c, q55e, hq55a, hq55b, hq55l, hq55v, h⟩ := h
        refine op_none rfl rfl (do_store (vs := [Sl.v r50]) size50 (pta rfl hq55a) rfl rfl rfl hq55v hq55b hq55l ?_) 
        refine GoOps.nil ?_
        refine Go.seq ?_
        refine Go.region rfl ?_
        refine GoOps.q (v := .int .i64 0) rfl rfl (by decide) (q_assign rfl) ?_
        refine GoOps.nil ?_
        exact Go.ret ⟨.inl rfl, _, _, DOk.nil, (resOk1 Try.results17 rfl), ⟨_, rfl, h⟩⟩
  · intro j13 hj13 h
    rcases bor (decide (p1 < x9)) with hc11 | hc11
    · have h := h.1 hc11
      refine no_dst (want_no rfl rfl rfl hc11) rfl (by decide) ?_
      refine GoOps.q (v := .bool true) rfl rfl (by decide) (q_pickT (btT rfl hc11) rfl) ?_
      exact hj13 true _ _ h (by exact ⟨rfl, rfl, rfl, rfl, rfl⟩)
    · have h := h.2 hc11
      refine GoOps.q (v := .bool y6) (want_yes rfl rfl rfl hc11) rfl (by decide) (q_move rfl) ?_
      refine GoOps.q (v := .bool y6) rfl rfl (by decide) (q_pickF (btF rfl hc11) rfl) ?_
      exact hj13 y6 _ _ h (by exact ⟨rfl, rfl, rfl, rfl, rfl⟩)

/-- (*keelson.keelsonref22.Window).Peek -/
def keelsonref22_Window_Peek (p0 : Option Addr) (H : PH) (Q : (Int × Int × Int × Int × Sl) → Bool → PH → Prop) : Prop :=
  mNew H (row [.int .i64 0, .int .i64 0, .int .i64 0, .int .i64 0, .slice none 0 0] 46) fun a1 H2 =>
  mNil p0 fun a4 =>
  mLd (.int .i64) H2 (a4.add 1) fun x6 =>
  keelsonref22_Window_place p0 x6 H2 fun y9 y10 H8 =>
  mIf (!y10)
  (mSt H8 a1 ([.int .i64 0, .int .i64 0, .int .i64 0, .int .i64 0, Sl.v Sl.nil]) fun H12 =>
  mLdR (fun (x : (Int × Int × Int × Int × Sl)) => [.int .i64 x.1, .int .i64 x.2.1, .int .i64 x.2.2.1, .int .i64 x.2.2.2.1, Sl.v x.2.2.2.2]) H12 a1 5 fun x14 =>
  Q (x14.1, x14.2.1, x14.2.2.1, x14.2.2.2.1, x14.2.2.2.2) false H12)
  (mNil p0 fun a16 =>
  mLd Sl.v H8 (a16.add 2) fun x18 =>
  mIdx x18 6 0 fun a20 =>
  mLdR (fun (x : (Int × Int × Int × Int × Sl)) => [.int .i64 x.1, .int .i64 x.2.1, .int .i64 x.2.2.1, .int .i64 x.2.2.2.1, Sl.v x.2.2.2.2]) H8 (a20.add 1) 5 fun x22 =>
  mSt H8 a1 ([.int .i64 x22.1, .int .i64 x22.2.1, .int .i64 x22.2.2.1, .int .i64 x22.2.2.2.1, Sl.v x22.2.2.2.2]) fun H24 =>
  mLdR (fun (x : (Int × Int × Int × Int × Sl)) => [.int .i64 x.1, .int .i64 x.2.1, .int .i64 x.2.2.1, .int .i64 x.2.2.2.1, Sl.v x.2.2.2.2]) H24 a1 5 fun x26 =>
  Q (x26.1, x26.2.1, x26.2.2.1, x26.2.2.2.1, x26.2.2.2.2) true H24)

set_option maxRecDepth 20000 in
set_option maxHeartbeats 1000000 in
theorem keelsonref22_Window_Peek_s (p0 : Option Addr) (H : PH) (Q : (Int × Int × Int × Int × Sl) → Bool → PH → Prop) (h : keelsonref22_Window_Peek p0 H Q) :
    CallsH Try.prog 19 #[.pointer p0] H (fun v H' => ∃ (r0 : (Int × Int × Int × Int × Sl)) (r1 : Bool), v = .tuple #[.agg ([.int .i64 r0.1, .int .i64 r0.2.1, .int .i64 r0.2.2.1, .int .i64 r0.2.2.2.1, Sl.v r0.2.2.2.2] : List Value).toArray, .bool r1] ∧ Q r0 r1 H') := by
  unfold keelsonref22_Window_Peek at h
  refine callsH_of_go Try.func19 rfl Try.ntmps19 (Nat.le_of_ble_eq_true rfl) ?_
  refine Go.seq ?_
  refine Go.region rfl ?_
  refine op_dst rfl rfl (by decide) (do_new zero46 rfl fun a1 H2 hb3 => ?_) 
  have h := h a1 H2 hb3
  refine GoOps.q (v := .bool false) rfl rfl (by decide) (q_assign rfl) ?_
  refine GoOps.nil ?_
  refine Go.seq ?_
  refine Go.region rfl ?_
  refine GoOps.q (v := .pointer p0) rfl rfl (by decide) (q_move rfl) ?_
  refine GoOps.q (v := .pointer p0) rfl rfl (by decide) (q_move rfl) ?_
  obtain ⟨a4, ha5, h⟩ := h
  refine GoOps.q (v := .pointer (some a4)) rfl rfl (by decide) (q_nilCheck (ptn rfl ha5)) ?_
  refine GoOps.q (v := .pointer (some (a4.add 1))) rfl rfl (by decide) (q_fieldAddr foff52_1 rfl) ?_
  obtain ⟨x6, hx7, h⟩ := h
  refine GoOps.q (v := .int .i64 x6) rfl rfl (by decide) (q_load scalar3 rfl hx7) ?_
  refine call_dst rfl (by decide) body31 (keelsonref22_Window_place_s _ _ _ _ h) rfl ?_
  rintro _ H8 ⟨y9, y10, rfl, h⟩
  refine GoOps.q (v := .tuple #[.int .i64 y9, .bool y10]) rfl rfl (by decide) (q_move rfl) ?_
  refine GoOps.q (v := .int .i64 y9) rfl rfl (by decide) (q_extract rfl rfl) ?_
  refine GoOps.q (v := .bool y10) rfl rfl (by decide) (q_extract rfl rfl) ?_
  refine GoOps.q (v := .int .i64 y9) rfl rfl (by decide) (q_assign rfl) ?_
  refine GoOps.q (v := .bool y10) rfl rfl (by decide) (q_assign rfl) ?_
  refine GoOps.nil ?_
  refine Go.seq ?_
  refine Go.seq ?_
  refine Go.region rfl ?_
  refine GoOps.q (v := .bool y10) rfl rfl (by decide) (q_move rfl) ?_
  refine GoOps.q (v := .bool (!y10)) rfl rfl (by decide) (q_not rfl) ?_
  refine GoOps.nil ?_
  rcases bor (!y10) with hc11 | hc11
  · have h := h.1 hc11
    refine Go.condT (btT rfl hc11) ?_
    refine Go.seq ?_
    refine Go.region rfl ?_
    refine GoOps.q (v := .agg ([.int .i64 0, .int .i64 0, .int .i64 0, .int .i64 0, Sl.v Sl.nil] : List Value).toArray) rfl rfl (by decide) (q_build (ps := []) (cs := [.int .i64 0, .int .i64 0, .int .i64 0, .int .i64 0, Sl.v Sl.nil]) places46 zero46 rfl rfl rfl) ?_
    obtain ⟨q13b, q13o, q13c, q13e, hq13a, hq13b, hq13l, hq13v, h⟩ := h
    refine op_none rfl rfl (do_store (vs := [.int .i64 0, .int .i64 0, .int .i64 0, .int .i64 0, Sl.v Sl.nil]) size46 (pta rfl hq13a) rfl rfl rfl hq13v hq13b hq13l ?_) 
    refine GoOps.q (v := .bool false) rfl rfl (by decide) (q_assign rfl) ?_
    refine GoOps.nil ?_
    obtain ⟨x14, hx15, h⟩ := h
    exact Go.ret ⟨.inl rfl, _, _, DOk.nil, (resOkV2 Try.results19 (rv_cellA aggr46 rfl hx15) (rv_tmp rfl)), ⟨_, _, rfl, h⟩⟩
  · have h := h.2 hc11
    refine Go.condF (btF rfl hc11) ?_
    refine Go.skip ?_
    refine Go.seq ?_
    refine Go.region rfl ?_
    refine GoOps.q (v := .pointer p0) rfl rfl (by decide) (q_move rfl) ?_
    obtain ⟨a16, ha17, h⟩ := h
    refine GoOps.q (v := .pointer (some a16)) rfl rfl (by decide) (q_nilCheck (ptn rfl ha17)) ?_
    refine GoOps.q (v := .pointer (some (a16.add 2))) rfl rfl (by decide) (q_fieldAddr foff52_2 rfl) ?_
    obtain ⟨x18, hx19, h⟩ := h
    refine GoOps.q (v := Sl.v x18) rfl rfl (by decide) (q_load scalar50 rfl hx19) ?_
    obtain ⟨a20, ha21, h⟩ := h
    refine GoOps.q (v := .pointer (some a20)) rfl rfl (by decide) (q_idx slice50 ha21 rfl rfl) ?_
    refine GoOps.q (v := .pointer (some (a20.add 1))) rfl rfl (by decide) (q_fieldAddr foff68_1 rfl) ?_
    obtain ⟨x22, hx23, h⟩ := h
    refine GoOps.q (v := .agg ([.int .i64 x22.1, .int .i64 x22.2.1, .int .i64 x22.2.2.1, .int .i64 x22.2.2.2.1, Sl.v x22.2.2.2.2] : List Value).toArray) rfl rfl (by decide) (q_loadA aggr46 rfl hx23) ?_
    obtain ⟨q25b, q25o, q25c, q25e, hq25a, hq25b, hq25l, hq25v, h⟩ := h
    refine op_none rfl rfl (do_store (vs := [.int .i64 x22.1, .int .i64 x22.2.1, .int .i64 x22.2.2.1, .int .i64 x22.2.2.2.1, Sl.v x22.2.2.2.2]) size46 (pta rfl hq25a) rfl rfl rfl hq25v hq25b hq25l ?_) 
    refine GoOps.q (v := .bool true) rfl rfl (by decide) (q_assign rfl) ?_
    refine GoOps.nil ?_
    obtain ⟨x26, hx27, h⟩ := h
    exact Go.ret ⟨.inl rfl, _, _, DOk.nil, (resOkV2 Try.results19 (rv_cellA aggr46 rfl hx27) (rv_tmp rfl)), ⟨_, _, rfl, h⟩⟩

/-- (*keelson.keelsonref22.Window).Cut -/
def keelsonref22_Window_Cut (p0 : Option Addr) (H : PH) (Q : Bool → PH → Prop) : Prop :=
  mNil p0 fun a1 =>
  mLd (.int .i64) H (a1.add 1) fun x3 =>
  keelsonref22_Window_place p0 x3 H fun y6 y7 H5 =>
  mJoin (fun (s8 : Unit) (H10 : PH) =>
  Q y7 H10)
  fun j9 =>
  mIf y7
  (mNewS H5 (row [] 68) 0 fun r13 H14 =>
  mNil p0 fun a16 =>
  mLd Sl.v H14 (a16.add 2) fun x18 =>
  mCut x18 6 1 (x18.len : Int) fun r21 =>
  mApp H14 68 6 64 [.int .i64 0, .int .i64 0, .int .i64 0, .int .i64 0, .int .i64 0, .slice none 0 0] r13 r21 fun r22 H23 =>
  mNil p0 fun a24 =>
  mSt H23 (a24.add 2) ([Sl.v r22]) fun H26 =>
  j9 () H26)
  (j9 () H5)

set_option maxRecDepth 20000 in
set_option maxHeartbeats 1000000 in
theorem keelsonref22_Window_Cut_s (p0 : Option Addr) (H : PH) (Q : Bool → PH → Prop) (h : keelsonref22_Window_Cut p0 H Q) :
    CallsH Try.prog 22 #[.pointer p0] H (fun v H' => ∃ (r0 : Bool), v = .bool r0 ∧ Q r0 H') := by
  unfold keelsonref22_Window_Cut at h
  refine callsH_of_go Try.func22 rfl Try.ntmps22 (Nat.le_of_ble_eq_true rfl) ?_
  refine Go.seq ?_
  refine Go.region rfl ?_
  refine GoOps.q (v := .bool false) rfl rfl (by decide) (q_assign rfl) ?_
  refine GoOps.nil ?_
  refine Go.seq ?_
  refine Go.region rfl ?_
  refine GoOps.q (v := .pointer p0) rfl rfl (by decide) (q_move rfl) ?_
  refine GoOps.q (v := .pointer p0) rfl rfl (by decide) (q_move rfl) ?_
  obtain ⟨a1, ha2, h⟩ := h
  refine GoOps.q (v := .pointer (some a1)) rfl rfl (by decide) (q_nilCheck (ptn rfl ha2)) ?_
  refine GoOps.q (v := .pointer (some (a1.add 1))) rfl rfl (by decide) (q_fieldAddr foff52_1 rfl) ?_
  obtain ⟨x3, hx4, h⟩ := h
  refine GoOps.q (v := .int .i64 x3) rfl rfl (by decide) (q_load scalar3 rfl hx4) ?_
  refine call_dst rfl (by decide) body31 (keelsonref22_Window_place_s _ _ _ _ h) rfl ?_
  rintro _ H5 ⟨y6, y7, rfl, h⟩
  refine GoOps.q (v := .tuple #[.int .i64 y6, .bool y7]) rfl rfl (by decide) (q_move rfl) ?_
  refine GoOps.q (v := .int .i64 y6) rfl rfl (by decide) (q_extract rfl rfl) ?_
  refine GoOps.q (v := .bool y7) rfl rfl (by decide) (q_extract rfl rfl) ?_
  refine GoOps.q (v := .int .i64 y6) rfl rfl (by decide) (q_assign rfl) ?_
  refine GoOps.q (v := .bool y7) rfl rfl (by decide) (q_assign rfl) ?_
  refine GoOps.nil ?_
  refine Go.seq ?_
  refine Go.seq ?_
  refine Go.region rfl ?_
  refine GoOps.q (v := .bool y7) rfl rfl (by decide) (q_move rfl) ?_
  refine GoOps.nil ?_
  refine join_go 1 (fun ρ (s8 : Unit) => ρ 4 = .bool y7) h ?_ ?_ <;> clear h
  · intro s8 H10 ρ h hE
    have e11_4 := hE
    refine Go.seq ?_
    refine Go.region rfl ?_
    refine GoOps.q (v := .bool y7) rfl rfl (by decide) (q_move e11_4) ?_
    refine GoOps.q (v := .bool y7) rfl rfl (by decide) (q_assign rfl) ?_
    refine GoOps.nil ?_
    exact Go.ret ⟨.inl rfl, _, _, DOk.nil, (resOk1 Try.results22 rfl), ⟨_, rfl, h⟩⟩
  · intro j9 hj9 h
    rcases bor y7 with hc12 | hc12
    · have h := h.1 hc12
      refine Go.condT (btT rfl hc12) ?_
      refine Go.region rfl ?_
      refine GoOps.q (v := .pointer p0) rfl rfl (by decide) (q_move rfl) ?_
      refine op_dst rfl rfl (by decide) (do_bs0 slice50 fun r13 H14 hb15 => ?_) 
      have h := h r13 H14 hb15
      refine GoOps.q (v := .pointer p0) rfl rfl (by decide) (q_move rfl) ?_
      obtain ⟨a16, ha17, h⟩ := h
      refine GoOps.q (v := .pointer (some a16)) rfl rfl (by decide) (q_nilCheck (ptn rfl ha17)) ?_
      refine GoOps.q (v := .pointer (some (a16.add 2))) rfl rfl (by decide) (q_fieldAddr foff52_2 rfl) ?_
      obtain ⟨x18, hx19, h⟩ := h
      refine GoOps.q (v := Sl.v x18) rfl rfl (by decide) (q_load scalar50 rfl hx19) ?_
      obtain ⟨r21, hm20, h⟩ := h
      refine GoOps.q (v := Sl.v r21) rfl rfl (by decide) (q_cut slice50 hm20 rfl ⟨_, rfl⟩ rfl) ?_
      refine op_dst rfl rfl (by decide) (do_append (zs := [.int .i64 0, .int .i64 0, .int .i64 0, .int .i64 0, .int .i64 0, .slice none 0 0]) slice50 bytes68 (by decide) zero68 rfl rfl (by decide) rfl rfl Try.underlying50 rfl h fun r22 H23 h => ?_) 
      obtain ⟨a24, ha25, h⟩ := h
      refine GoOps.q (v := .pointer (some a24)) rfl rfl (by decide) (q_nilCheck (ptn rfl ha25)) ?_
      refine GoOps.q (v := .pointer (some (a24.add 2))) rfl rfl (by decide) (q_fieldAddr foff52_2 rfl) ?_
      obtain ⟨q27b, q27o, q27c, q27e, hq27a, hq27b, hq27l, hq27v, h⟩ := h
      refine op_none rfl rfl (do_store (vs := [Sl.v r22]) size50 (pta rfl hq27a) rfl rfl rfl hq27v hq27b hq27l ?_) 
      refine GoOps.nil ?_
      exact hj9 _ _ _ h rfl
    · have h := h.2 hc12
      refine Go.condF (btF rfl hc12) ?_
      refine Go.skip ?_
      exact hj9 _ _ _ h rfl

/-- (*keelson.keelsonref22.Window).Pop -/
def keelsonref22_Window_Pop (p0 : Option Addr) (H : PH) (Q : (Int × Int × Int × Int × Sl) → Bool → PH → Prop) : Prop :=
  mNew H (row [.int .i64 0, .int .i64 0, .int .i64 0, .int .i64 0, .slice none 0 0] 46) fun a1 H2 =>
  keelsonref22_Window_Peek p0 H2 fun y5 y6 H4 =>
  mNew H4 (row [.int .i64 0, .int .i64 0, .int .i64 0, .int .i64 0, .slice none 0 0] 46) fun a7 H8 =>
  mSt H8 a7 ([.int .i64 y5.1, .int .i64 y5.2.1, .int .i64 y5.2.2.1, .int .i64 y5.2.2.2.1, Sl.v y5.2.2.2.2]) fun H10 =>
  mJoin (fun (s12 : Unit) (H14 : PH) =>
  mLdR (fun (x : (Int × Int × Int × Int × Sl)) => [.int .i64 x.1, .int .i64 x.2.1, .int .i64 x.2.2.1, .int .i64 x.2.2.2.1, Sl.v x.2.2.2.2]) H14 a7 5 fun x16 =>
  mSt H14 a1 ([.int .i64 x16.1, .int .i64 x16.2.1, .int .i64 x16.2.2.1, .int .i64 x16.2.2.2.1, Sl.v x16.2.2.2.2]) fun H18 =>
  mLdR (fun (x : (Int × Int × Int × Int × Sl)) => [.int .i64 x.1, .int .i64 x.2.1, .int .i64 x.2.2.1, .int .i64 x.2.2.2.1, Sl.v x.2.2.2.2]) H18 a1 5 fun x20 =>
  Q (x20.1, x20.2.1, x20.2.2.1, x20.2.2.2.1, x20.2.2.2.2) y6 H18)
  fun j13 =>
  mIf y6
  (keelsonref22_Window_Cut p0 H10 fun y24 H23 =>
  mNil p0 fun a25 =>
  mLd (.int .i64) H23 (a25.add 1) fun x27 =>
  mNil p0 fun a29 =>
  mSt H23 (a29.add 1) ([.int .i64 (IntKind.wrap .i64 (x27 + 1))]) fun H31 =>
  j13 () H31)
  (j13 () H10)

set_option maxRecDepth 20000 in
set_option maxHeartbeats 1000000 in
theorem keelsonref22_Window_Pop_s (p0 : Option Addr) (H : PH) (Q : (Int × Int × Int × Int × Sl) → Bool → PH → Prop) (h : keelsonref22_Window_Pop p0 H Q) :
    CallsH Try.prog 20 #[.pointer p0] H (fun v H' => ∃ (r0 : (Int × Int × Int × Int × Sl)) (r1 : Bool), v = .tuple #[.agg ([.int .i64 r0.1, .int .i64 r0.2.1, .int .i64 r0.2.2.1, .int .i64 r0.2.2.2.1, Sl.v r0.2.2.2.2] : List Value).toArray, .bool r1] ∧ Q r0 r1 H') := by
  unfold keelsonref22_Window_Pop at h
  refine callsH_of_go Try.func20 rfl Try.ntmps20 (Nat.le_of_ble_eq_true rfl) ?_
  refine Go.seq ?_
  refine Go.region rfl ?_
  refine op_dst rfl rfl (by decide) (do_new zero46 rfl fun a1 H2 hb3 => ?_) 
  have h := h a1 H2 hb3
  refine GoOps.q (v := .bool false) rfl rfl (by decide) (q_assign rfl) ?_
  refine GoOps.nil ?_
  refine Go.seq ?_
  refine Go.region rfl ?_
  refine GoOps.q (v := .pointer p0) rfl rfl (by decide) (q_move rfl) ?_
  refine call_dst rfl (by decide) body19 (keelsonref22_Window_Peek_s _ _ _ h) rfl ?_
  rintro _ H4 ⟨y5, y6, rfl, h⟩
  refine GoOps.q (v := .tuple #[.agg ([.int .i64 y5.1, .int .i64 y5.2.1, .int .i64 y5.2.2.1, .int .i64 y5.2.2.2.1, Sl.v y5.2.2.2.2] : List Value).toArray, .bool y6]) rfl rfl (by decide) (q_move rfl) ?_
  refine GoOps.q (v := .agg ([.int .i64 y5.1, .int .i64 y5.2.1, .int .i64 y5.2.2.1, .int .i64 y5.2.2.2.1, Sl.v y5.2.2.2.2] : List Value).toArray) rfl rfl (by decide) (q_extract rfl rfl) ?_
  refine GoOps.q (v := .bool y6) rfl rfl (by decide) (q_extract rfl rfl) ?_
  refine op_dst rfl rfl (by decide) (do_new zero46 rfl fun a7 H8 hb9 => ?_) 
  have h := h a7 H8 hb9
  obtain ⟨q11b, q11o, q11c, q11e, hq11a, hq11b, hq11l, hq11v, h⟩ := h
  refine op_none rfl rfl (do_store (vs := [.int .i64 y5.1, .int .i64 y5.2.1, .int .i64 y5.2.2.1, .int .i64 y5.2.2.2.1, Sl.v y5.2.2.2.2]) size46 (pta rfl hq11a) rfl rfl rfl hq11v hq11b hq11l ?_) 
  refine GoOps.q (v := .bool y6) rfl rfl (by decide) (q_assign rfl) ?_
  refine GoOps.nil ?_
  refine Go.seq ?_
  refine Go.seq ?_
  refine Go.region rfl ?_
  refine GoOps.q (v := .bool y6) rfl rfl (by decide) (q_move rfl) ?_
  refine GoOps.nil ?_
  refine join_go 1 (fun ρ (s12 : Unit) => ρ 2 = .pointer (some a1) ∧ ρ 4 = .pointer (some a7) ∧ ρ 5 = .bool y6) h ?_ ?_ <;> clear h
  · intro s12 H14 ρ h hE
    obtain ⟨e15_2, e15_4, e15_5⟩ := hE
    refine Go.seq ?_
    refine Go.region rfl ?_
    obtain ⟨x16, hx17, h⟩ := h
    refine GoOps.q (v := .agg ([.int .i64 x16.1, .int .i64 x16.2.1, .int .i64 x16.2.2.1, .int .i64 x16.2.2.2.1, Sl.v x16.2.2.2.2] : List Value).toArray) rfl rfl (by decide) (q_loadA aggr46 e15_4 hx17) ?_
    refine GoOps.q (v := .bool y6) rfl rfl (by decide) (q_move e15_5) ?_
    obtain ⟨q19b, q19o, q19c, q19e, hq19a, hq19b, hq19l, hq19v, h⟩ := h
    refine op_none rfl rfl (do_store (vs := [.int .i64 x16.1, .int .i64 x16.2.1, .int .i64 x16.2.2.1, .int .i64 x16.2.2.2.1, Sl.v x16.2.2.2.2]) size46 (pta e15_2 hq19a) rfl rfl rfl hq19v hq19b hq19l ?_) 
    refine GoOps.q (v := .bool y6) rfl rfl (by decide) (q_assign rfl) ?_
    refine GoOps.nil ?_
    obtain ⟨x20, hx21, h⟩ := h
    exact Go.ret ⟨.inl rfl, _, _, DOk.nil, (resOkV2 Try.results20 (rv_cellA aggr46 e15_2 hx21) (rv_tmp rfl)), ⟨_, _, rfl, h⟩⟩
  · intro j13 hj13 h
    rcases bor y6 with hc22 | hc22
    · have h := h.1 hc22
      refine Go.condT (btT rfl hc22) ?_
      refine Go.seq ?_
      refine Go.region rfl ?_
      refine GoOps.q (v := .pointer p0) rfl rfl (by decide) (q_move rfl) ?_
      refine call_dst rfl (by decide) body22 (keelsonref22_Window_Cut_s _ _ _ h) rfl ?_
      rintro _ H23 ⟨y24, rfl, h⟩
      refine GoOps.nil ?_
      refine Go.region rfl ?_
      refine GoOps.q (v := .pointer p0) rfl rfl (by decide) (q_move rfl) ?_
      obtain ⟨a25, ha26, h⟩ := h
      refine GoOps.q (v := .pointer (some a25)) rfl rfl (by decide) (q_nilCheck (ptn rfl ha26)) ?_
      refine GoOps.q (v := .pointer (some (a25.add 1))) rfl rfl (by decide) (q_fieldAddr foff52_1 rfl) ?_
      obtain ⟨x27, hx28, h⟩ := h
      refine GoOps.q (v := .int .i64 x27) rfl rfl (by decide) (q_load scalar3 rfl hx28) ?_
      refine GoOps.q (v := .int .i64 (IntKind.wrap .i64 (x27 + 1))) rfl rfl (by decide) (q_add rfl rfl) ?_
      obtain ⟨a29, ha30, h⟩ := h
      refine GoOps.q (v := .pointer (some a29)) rfl rfl (by decide) (q_nilCheck (ptn rfl ha30)) ?_
      refine GoOps.q (v := .pointer (some (a29.add 1))) rfl rfl (by decide) (q_fieldAddr foff52_1 rfl) ?_
      obtain ⟨q32b, q32o, q32c, q32e, hq32a, hq32b, hq32l, hq32v, h⟩ := h
      refine op_none rfl rfl (do_store (vs := [.int .i64 (IntKind.wrap .i64 (x27 + 1))]) size3 (pta rfl hq32a) rfl rfl rfl hq32v hq32b hq32l ?_) 
      refine GoOps.nil ?_
      exact hj13 _ _ _ h ⟨rfl, rfl, rfl⟩
    · have h := h.2 hc22
      refine Go.condF (btF rfl hc22) ?_
      refine Go.skip ?_
      exact hj13 _ _ _ h ⟨rfl, rfl, rfl⟩

/-- (*keelson.window.Window[int]).Reset -/
def window_Window_int_Reset (p0 : Option Addr) (p1 : Int) (H : PH) (Q : PH → Prop) : Prop :=
  window_Window_int_none p0 H fun y2 H1 =>
  mJoin (fun (s4 : Bool) (H6 : PH) =>
  mJoin (fun (s9 : Bool) (H11 : PH) =>
  mIf s9
  (Q H11)
  (mNil p0 fun a14 =>
  mLd Sl.v H11 (a14.add 0) fun x16 =>
  mClear H11 2 [.int .i64 0, .bool false] x16 fun H18 =>
  mNil p0 fun a19 =>
  mSt H18 (a19.add 1) ([.int .i64 p1]) fun H21 =>
  Q H21))
  fun j10 =>
  mIf s4
  (j10 true H6)
  (j10 (decide (2147483647 < p1)) H6))
  fun j5 =>
  mIf y2
  (j5 true H1)
  (j5 (decide (p1 < 1)) H1)

set_option maxRecDepth 20000 in
set_option maxHeartbeats 1000000 in
theorem window_Window_int_Reset_s (p0 : Option Addr) (p1 : Int) (H : PH) (Q : PH → Prop) (h : window_Window_int_Reset p0 p1 H Q) :
    CallsH Try.prog 23 #[.pointer p0, .int .i64 p1] H (fun v H' => v = .tuple #[] ∧ Q H') := by
  unfold window_Window_int_Reset at h
  refine callsH_of_go Try.func23 rfl Try.ntmps23 (Nat.le_of_ble_eq_true rfl) ?_
  refine Go.seq ?_
  refine Go.seq ?_
  refine Go.region rfl ?_
  refine GoOps.q (v := .pointer p0) rfl rfl (by decide) (q_move rfl) ?_
  refine call_dst rfl (by decide) body27 (window_Window_int_none_s _ _ _ h) rfl ?_
  rintro _ H1 ⟨y2, rfl, h⟩
  refine GoOps.q (v := .bool y2) rfl rfl (by decide) (q_move rfl) ?_
  refine join_ops 3 (fun ρ (s4 : Bool) => ρ 0 = .pointer p0 ∧ ρ 1 = .int .i64 p1 ∧ ρ 9 = .bool s4) h ?_ ?_ <;> clear h
  · intro s4 H6 ρ h hE
    obtain ⟨e7_0, e7_1, e7_9⟩ := hE
    refine GoOps.q (v := .bool s4) rfl rfl (by decide) (q_move e7_9) ?_
    refine join_ops 3 (fun ρ (s9 : Bool) => ρ 0 = .pointer p0 ∧ ρ 1 = .int .i64 p1 ∧ ρ 13 = .bool s9) h ?_ ?_ <;> clear h
    · intro s9 H11 ρ h hE
      obtain ⟨e12_0, e12_1, e12_13⟩ := hE
      refine GoOps.nil ?_
      rcases bor s9 with hc13 | hc13
      · have h := h.1 hc13
        refine Go.condT (btT e12_13 hc13) ?_
        exact Go.ret ⟨.inl rfl, _, _, DOk.nil, (resOk0 Try.results23), ⟨rfl, h⟩⟩
      · have h := h.2 hc13
        refine Go.condF (btF e12_13 hc13) ?_
        refine Go.skip ?_
        refine Go.seq ?_
        refine Go.region rfl ?_
        refine GoOps.q (v := .pointer p0) rfl rfl (by decide) (q_move e12_0) ?_
        obtain ⟨a14, ha15, h⟩ := h
        refine GoOps.q (v := .pointer (some a14)) rfl rfl (by decide) (q_nilCheck (ptn rfl ha15)) ?_
        refine GoOps.q (v := .pointer (some (a14.add 0))) rfl rfl (by decide) (q_fieldAddr foff58_0 rfl) ?_
        obtain ⟨x16, hx17, h⟩ := h
        refine GoOps.q (v := Sl.v x16) rfl rfl (by decide) (q_load scalar56 rfl hx17) ?_
        refine op_none rfl rfl (do_clear (zs := [.int .i64 0, .bool false]) slice56 zero60 rfl rfl rfl (by decide) rfl h fun H18 h => ?_) 
        refine GoOps.nil ?_
        refine Go.region rfl ?_
        refine GoOps.q (v := .pointer p0) rfl rfl (by decide) (q_move e12_0) ?_
        refine GoOps.q (v := .int .i64 p1) rfl rfl (by decide) (q_move e12_1) ?_
        obtain ⟨a19, ha20, h⟩ := h
        refine GoOps.q (v := .pointer (some a19)) rfl rfl (by decide) (q_nilCheck (ptn rfl ha20)) ?_
        refine GoOps.q (v := .pointer (some (a19.add 1))) rfl rfl (by decide) (q_fieldAddr foff58_1 rfl) ?_
        obtain ⟨q22b, q22o, q22c, q22e, hq22a, hq22b, hq22l, hq22v, h⟩ := h
        refine op_none rfl rfl (do_store (vs := [.int .i64 p1]) size3 (pta rfl hq22a) rfl rfl rfl hq22v hq22b hq22l ?_) 
        refine GoOps.nil ?_
        exact Go.fall ⟨.inr rfl, _, _, DOk.nil, (resOk0 Try.results23), ⟨rfl, h⟩⟩
    · intro j10 hj10 h
      rcases bor s4 with hc8 | hc8
      · have h := h.1 hc8
        refine no_dst (want_no rfl rfl rfl hc8) rfl (by decide) ?_
        refine no_dst (want_no rfl rfl rfl hc8) rfl (by decide) ?_
        refine GoOps.q (v := .bool true) rfl rfl (by decide) (q_pickT (btT rfl hc8) rfl) ?_
        exact hj10 true _ _ h (by exact ⟨e7_0, e7_1, rfl⟩)
      · have h := h.2 hc8
        refine GoOps.q (v := .int .i64 p1) (want_yes rfl rfl rfl hc8) rfl (by decide) (q_move e7_1) ?_
        refine GoOps.q (v := .bool (decide (2147483647 < p1))) (want_yes rfl rfl rfl hc8) rfl (by decide) (q_gtr rfl rfl) ?_
        refine GoOps.q (v := .bool (decide (2147483647 < p1))) rfl rfl (by decide) (q_pickF (btF rfl hc8) rfl) ?_
        exact hj10 (decide (2147483647 < p1)) _ _ h (by exact ⟨e7_0, e7_1, rfl⟩)
  · intro j5 hj5 h
    rcases bor y2 with hc3 | hc3
    · have h := h.1 hc3
      refine no_dst (want_no rfl rfl rfl hc3) rfl (by decide) ?_
      refine no_dst (want_no rfl rfl rfl hc3) rfl (by decide) ?_
      refine GoOps.q (v := .bool true) rfl rfl (by decide) (q_pickT (btT rfl hc3) rfl) ?_
      exact hj5 true _ _ h (by exact ⟨rfl, rfl, rfl⟩)
    · have h := h.2 hc3
      refine GoOps.q (v := .int .i64 p1) (want_yes rfl rfl rfl hc3) rfl (by decide) (q_move rfl) ?_
      refine GoOps.q (v := .bool (decide (p1 < 1))) (want_yes rfl rfl rfl hc3) rfl (by decide) (q_lss rfl rfl) ?_
      refine GoOps.q (v := .bool (decide (p1 < 1))) rfl rfl (by decide) (q_pickF (btF rfl hc3) rfl) ?_
      exact hj5 (decide (p1 < 1)) _ _ h (by exact ⟨rfl, rfl, rfl⟩)

/-- (*keelson.keelsonref22.Window).Reset -/
def keelsonref22_Window_Reset (p0 : Option Addr) (p1 : Int) (H : PH) (Q : PH → Prop) : Prop :=
  keelsonref1_Within p1 1 2147483647 H fun y2 H1 =>
  mIf y2
  (mNil p0 fun a4 =>
  mSt H1 (a4.add 1) ([.int .i64 p1]) fun H6 =>
  mNil p0 fun a8 =>
  mSt H6 (a8.add 2) ([Sl.v Sl.nil]) fun H10 =>
  Q H10)
  (Q H1)

set_option maxRecDepth 20000 in
set_option maxHeartbeats 1000000 in
theorem keelsonref22_Window_Reset_s (p0 : Option Addr) (p1 : Int) (H : PH) (Q : PH → Prop) (h : keelsonref22_Window_Reset p0 p1 H Q) :
    CallsH Try.prog 24 #[.pointer p0, .int .i64 p1] H (fun v H' => v = .tuple #[] ∧ Q H') := by
  unfold keelsonref22_Window_Reset at h
  refine callsH_of_go Try.func24 rfl Try.ntmps24 (Nat.le_of_ble_eq_true rfl) ?_
  refine Go.seq ?_
  refine Go.region rfl ?_
  refine GoOps.q (v := .int .i64 p1) rfl rfl (by decide) (q_move rfl) ?_
  refine call_dst rfl (by decide) body30 (keelsonref1_Within_s _ _ _ _ _ h) rfl ?_
  rintro _ H1 ⟨y2, rfl, h⟩
  refine GoOps.nil ?_
  rcases bor y2 with hc3 | hc3
  · have h := h.1 hc3
    refine Go.condT (btT rfl hc3) ?_
    refine Go.seq ?_
    refine Go.region rfl ?_
    refine GoOps.q (v := .pointer p0) rfl rfl (by decide) (q_move rfl) ?_
    refine GoOps.q (v := .int .i64 p1) rfl rfl (by decide) (q_move rfl) ?_
    obtain ⟨a4, ha5, h⟩ := h
    refine GoOps.q (v := .pointer (some a4)) rfl rfl (by decide) (q_nilCheck (ptn rfl ha5)) ?_
    refine GoOps.q (v := .pointer (some (a4.add 1))) rfl rfl (by decide) (q_fieldAddr foff52_1 rfl) ?_
    obtain ⟨q7b, q7o, q7c, q7e, hq7a, hq7b, hq7l, hq7v, h⟩ := h
    refine op_none rfl rfl (do_store (vs := [.int .i64 p1]) size3 (pta rfl hq7a) rfl rfl rfl hq7v hq7b hq7l ?_) 
    refine GoOps.nil ?_
    refine Go.region rfl ?_
    refine GoOps.q (v := .pointer p0) rfl rfl (by decide) (q_move rfl) ?_
    obtain ⟨a8, ha9, h⟩ := h
    refine GoOps.q (v := .pointer (some a8)) rfl rfl (by decide) (q_nilCheck (ptn rfl ha9)) ?_
    refine GoOps.q (v := .pointer (some (a8.add 2))) rfl rfl (by decide) (q_fieldAddr foff52_2 rfl) ?_
    obtain ⟨q11b, q11o, q11c, q11e, hq11a, hq11b, hq11l, hq11v, h⟩ := h
    refine op_none rfl rfl (do_store (vs := [Sl.v Sl.nil]) size50 (pta rfl hq11a) rfl rfl rfl hq11v hq11b hq11l ?_) 
    refine GoOps.nil ?_
    exact Go.fall ⟨.inr rfl, _, _, DOk.nil, (resOk0 Try.results24), ⟨rfl, h⟩⟩
  · have h := h.2 hc3
    refine Go.condF (btF rfl hc3) ?_
    refine Go.skip ?_
    exact Go.fall ⟨.inr rfl, _, _, DOk.nil, (resOk0 Try.results24), ⟨rfl, h⟩⟩

/-- (*keelson.keelsonref22.Window).Numbers -/
def keelsonref22_Window_Numbers (p0 : Option Addr) (H : PH) (Q : Sl → PH → Prop) : Prop :=
  mLoop (fun (s1 : Sl × Int) (H4 : PH) (again2 : (Sl × Int) → PH → Prop) =>
  mNil p0 fun a5 =>
  mLd Sl.v H4 (a5.add 2) fun x7 =>
  mIf (decide (s1.2 < (x7.len : Int)))
  (mNil p0 fun a10 =>
  mLd Sl.v H4 (a10.add 2) fun x12 =>
  mIdx x12 6 s1.2 fun a14 =>
  mLd (.int .i64) H4 (a14.add 0) fun x16 =>
  mNewS H4 (row [.int .i64 x16] 3) 1 fun r18 H19 =>
  mApp H19 3 1 8 [.int .i64 0] s1.1 r18 fun r21 H22 =>
  again2 (r21, IntKind.wrap .i64 (s1.2 + 1)) H22)
  (Q s1.1 H4))
  (Sl.nil, 0) H

set_option maxRecDepth 20000 in
set_option maxHeartbeats 1000000 in
theorem keelsonref22_Window_Numbers_s (p0 : Option Addr) (H : PH) (Q : Sl → PH → Prop) (h : keelsonref22_Window_Numbers p0 H Q) :
    CallsH Try.prog 25 #[.pointer p0] H (fun v H' => ∃ (r0 : Sl), v = Sl.v r0 ∧ Q r0 H') := by
  unfold keelsonref22_Window_Numbers at h
  refine callsH_of_go Try.func25 rfl Try.ntmps25 (Nat.le_of_ble_eq_true rfl) ?_
  refine Go.seq ?_
  refine Go.region rfl ?_
  refine GoOps.q (v := Sl.v Sl.nil) rfl rfl (by decide) (q_assign rfl) ?_
  refine GoOps.nil ?_
  refine Go.seq ?_
  refine Go.region rfl ?_
  refine GoOps.q (v := Sl.v Sl.nil) rfl rfl (by decide) (q_assign rfl) ?_
  refine GoOps.nil ?_
  refine Go.seq ?_
  refine Go.seq ?_
  refine Go.region rfl ?_
  refine GoOps.q (v := .int .i64 0) rfl rfl (by decide) (q_assign rfl) ?_
  refine GoOps.nil ?_
  refine Go.block ?_
  refine loop_go (fun ρ (s1 : Sl × Int) => ρ 0 = .pointer p0 ∧ ρ 3 = Sl.v s1.1 ∧ ρ 4 = .int .i64 s1.2) h ⟨rfl, rfl, rfl⟩ ?_
  clear h
  intro ρ s1 H4 again2 hE h hagain2
  obtain ⟨e3_0, e3_3, e3_4⟩ := hE
  refine Go.seq ?_
  refine Go.seq ?_
  refine Go.region rfl ?_
  refine GoOps.q (v := .int .i64 s1.2) rfl rfl (by decide) (q_move e3_4) ?_
  refine GoOps.q (v := .pointer p0) rfl rfl (by decide) (q_move e3_0) ?_
  obtain ⟨a5, ha6, h⟩ := h
  refine GoOps.q (v := .pointer (some a5)) rfl rfl (by decide) (q_nilCheck (ptn rfl ha6)) ?_
  refine GoOps.q (v := .pointer (some (a5.add 2))) rfl rfl (by decide) (q_fieldAddr foff52_2 rfl) ?_
  obtain ⟨x7, hx8, h⟩ := h
  refine GoOps.q (v := Sl.v x7) rfl rfl (by decide) (q_load scalar50 rfl hx8) ?_
  refine GoOps.q (v := .int .i64 (x7.len : Int)) rfl rfl (by decide) (q_len Try.underlying50 rfl (ls1 rfl)) ?_
  refine GoOps.q (v := .bool (decide (s1.2 < (x7.len : Int)))) rfl rfl (by decide) (q_lss rfl rfl) ?_
  refine GoOps.nil ?_
  rcases bor (decide (s1.2 < (x7.len : Int))) with hc9 | hc9
  · have h := h.1 hc9
    refine Go.condT (btT rfl hc9) ?_
    refine Go.skip ?_
    refine Go.seq ?_
    refine Go.block ?_
    refine Go.region rfl ?_
    refine GoOps.q (v := Sl.v s1.1) rfl rfl (by decide) (q_move e3_3) ?_
    refine GoOps.q (v := .pointer p0) rfl rfl (by decide) (q_move e3_0) ?_
    obtain ⟨a10, ha11, h⟩ := h
    refine GoOps.q (v := .pointer (some a10)) rfl rfl (by decide) (q_nilCheck (ptn rfl ha11)) ?_
    refine GoOps.q (v := .pointer (some (a10.add 2))) rfl rfl (by decide) (q_fieldAddr foff52_2 rfl) ?_
    obtain ⟨x12, hx13, h⟩ := h
    refine GoOps.q (v := Sl.v x12) rfl rfl (by decide) (q_load scalar50 rfl hx13) ?_
    refine GoOps.q (v := .int .i64 s1.2) rfl rfl (by decide) (q_move e3_4) ?_
    obtain ⟨a14, ha15, h⟩ := h
    refine GoOps.q (v := .pointer (some a14)) rfl rfl (by decide) (q_idx slice50 ha15 rfl rfl) ?_
    refine GoOps.q (v := .pointer (some (a14.add 0))) rfl rfl (by decide) (q_fieldAddr foff68_0 rfl) ?_
    obtain ⟨x16, hx17, h⟩ := h
    refine GoOps.q (v := .int .i64 x16) rfl rfl (by decide) (q_load scalar3 rfl hx17) ?_
    refine op_dst rfl rfl (by decide) (do_bs (ps := [(0, .int .i64 x16)]) (zs := [.int .i64 0]) (cs := [.int .i64 x16]) slice22 zero3 rfl rfl (by decide) (by decide) rfl rfl fun r18 H19 hb20 => ?_) 
    have h := h r18 H19 hb20
    refine op_dst rfl rfl (by decide) (do_append (zs := [.int .i64 0]) slice22 bytes3 (by decide) zero3 rfl rfl (by decide) rfl rfl Try.underlying22 rfl h fun r21 H22 h => ?_) 
    refine GoOps.q (v := Sl.v r21) rfl rfl (by decide) (q_assign rfl) ?_
    refine GoOps.nil ?_
    refine Go.inBlock ?_
    refine Go.region rfl ?_
    refine GoOps.q (v := .int .i64 s1.2) rfl rfl (by decide) (q_move e3_4) ?_
    refine GoOps.q (v := .int .i64 (IntKind.wrap .i64 (s1.2 + 1))) rfl rfl (by decide) (q_add rfl rfl) ?_
    refine GoOps.q (v := .int .i64 (IntKind.wrap .i64 (s1.2 + 1))) rfl rfl (by decide) (q_assign rfl) ?_
    refine GoOps.nil ?_
    exact hagain2 _ _ _ h ⟨e3_0, rfl, rfl⟩
  · have h := h.2 hc9
    refine Go.condF (btF rfl hc9) ?_
    refine Go.exit rfl ?_
    refine Go.seq ?_
    refine Go.region rfl ?_
    refine GoOps.q (v := Sl.v s1.1) rfl rfl (by decide) (q_move e3_3) ?_
    refine GoOps.q (v := Sl.v s1.1) rfl rfl (by decide) (q_assign rfl) ?_
    refine GoOps.nil ?_
    exact Go.ret ⟨.inl rfl, _, _, DOk.nil, (resOk1 Try.results25 rfl), ⟨_, rfl, h⟩⟩

/-- keelson.keelsonlaw23.WindowPlays -/
def keelsonlaw23_WindowPlays (p0 : Int) (p1 : Int) (p2 : Sl) (H : PH) (Q : Bool → PH → Prop) : Prop :=
  mIf (decide (60 < (p2.len : Int)))
  (keelsonlaw23_awake H fun y3 H2 =>
  Q y3 H2)
  (window_New_int p0 p1 H fun y5 H4 =>
  keelsonref22_NewWindow p0 p1 H4 fun y7 H6 =>
  mIf (Option.isNone y7)
  (mJoin (fun (s10 : Bool) (H12 : PH) =>
  Q s10 H12)
  fun j11 =>
  mIf (Option.isNone y5)
  (keelsonlaw23_awake H6 fun y15 H14 =>
  j11 y15 H14)
  (j11 false H6))
  (mIf (Option.isNone y5)
  (Q false H6)
  (mLoop (fun (s17 : Int) (H20 : PH) (again18 : Int → PH → Prop) =>
  mIf (decide (s17 < (p2.len : Int)))
  (mIdx p2 3 s17 fun a22 =>
  mLdR (fun (x : (Int × Int × Int)) => [.int .i64 x.1, .int .i64 x.2.1, .int .i64 x.2.2]) H20 a22 3 fun x24 =>
  mNew H20 (row [.int .i64 0, .int .i64 0, .int .i64 0] 42) fun a26 H27 =>
  mSt H27 a26 ([.int .i64 x24.1, .int .i64 x24.2.1, .int .i64 x24.2.2]) fun H29 =>
  mLd (.int .i64) H29 (a26.add 0) fun x31 =>
  mJoin (fun (s33 : Unit) (H35 : PH) =>
  keelsonlaw23_all y5 99 H35 fun y38 y39 H37 =>
  mNil y7 fun a40 =>
  mLd (.int .i64) H37 (a40.add 1) fun x42 =>
  window_Window_int_Next y5 H37 fun y45 H44 =>
  mSame H44 (a40.add 1) (.int .i64 x42) <|
  mJoin (fun (s48 : Bool) (H50 : PH) =>
  mJoin (fun (s53 : Bool) (H55 : PH) =>
  mIf s53
  (Q false H55)
  (again18 (IntKind.wrap .i64 (s17 + 1)) H55))
  fun j54 =>
  mIf s48
  (j54 true H50)
  (keelsonref22_Window_Numbers y7 H50 fun y59 H58 =>
  keelsonalike_Ints y38 y59 H58 fun y61 H60 =>
  j54 (!y61) H60))
  fun j49 =>
  mIf (y45 != x42)
  (j49 true H44)
  (mNil y7 fun a62 =>
  mLd Sl.v H44 (a62.add 2) fun x64 =>
  window_Window_int_Len y5 H44 fun y67 H66 =>
  mSame H66 (a62.add 2) (Sl.v x64) <|
  j49 (y67 != (x64.len : Int)) H66))
  fun j34 =>
  mIf (x31 == 1)
  (mLd (.int .i64) H29 (a26.add 1) fun x70 =>
  mLd (.int .i64) H29 (a26.add 2) fun x72 =>
  mLd (.int .i64) H29 (a26.add 1) fun x74 =>
  mLd (.int .i64) H29 (a26.add 2) fun x76 =>
  window_Window_int_Put y5 x70 x72 H29 fun y79 H78 =>
  mSame H78 (a26.add 2) (.int .i64 x76) <|
  mSame H78 (a26.add 1) (.int .i64 x74) <|
  keelsonref22_Window_Put y7 x74 (0, x76, 0, 0, Sl.nil) H78 fun y83 H82 =>
  mIf (y79 != y83)
  (Q false H82)
  (j34 () H82))
  (mIf (x31 == 2)
  (window_Window_int_Peek y5 H29 fun y87 y88 H86 =>
  keelsonref22_Window_Peek y7 H86 fun y90 y91 H89 =>
  mNew H89 (row [.int .i64 0, .int .i64 0, .int .i64 0, .int .i64 0, .slice none 0 0] 46) fun a92 H93 =>
  mSt H93 a92 ([.int .i64 y90.1, .int .i64 y90.2.1, .int .i64 y90.2.2.1, .int .i64 y90.2.2.2.1, Sl.v y90.2.2.2.2]) fun H95 =>
  mJoin (fun (s98 : Bool) (H100 : PH) =>
  mIf s98
  (Q false H100)
  (j34 () H100))
  fun j99 =>
  mIf (y88 != y91)
  (j99 true H95)
  (mLd (.int .i64) H95 (a92.add 1) fun x103 =>
  j99 (y87 != x103) H95))
  (mIf (x31 == 3)
  (window_Window_int_Pop y5 H29 fun y107 y108 H106 =>
  keelsonref22_Window_Pop y7 H106 fun y110 y111 H109 =>
  mNew H109 (row [.int .i64 0, .int .i64 0, .int .i64 0, .int .i64 0, .slice none 0 0] 46) fun a112 H113 =>
  mSt H113 a112 ([.int .i64 y110.1, .int .i64 y110.2.1, .int .i64 y110.2.2.1, .int .i64 y110.2.2.2.1, Sl.v y110.2.2.2.2]) fun H115 =>
  mJoin (fun (s118 : Bool) (H120 : PH) =>
  mIf s118
  (Q false H120)
  (j34 () H120))
  fun j119 =>
  mIf (y108 != y111)
  (j119 true H115)
  (mLd (.int .i64) H115 (a112.add 1) fun x123 =>
  j119 (y107 != x123) H115))
  (mIf (x31 == 4)
  (window_Window_int_Cut y5 H29 fun y127 H126 =>
  keelsonref22_Window_Cut y7 H126 fun y129 H128 =>
  mIf (y127 != y129)
  (Q false H128)
  (j34 () H128))
  (mIf (x31 == 5)
  (mLd (.int .i64) H29 (a26.add 1) fun x132 =>
  window_Window_int_Reset y5 x132 H29 fun H134 =>
  mLd (.int .i64) H134 (a26.add 1) fun x135 =>
  keelsonref22_Window_Reset y7 x135 H134 fun H137 =>
  j34 () H137)
  (j34 () H29))))))
  (keelsonlaw23_awake H20 fun y139 H138 =>
  Q y139 H138))
  0 H6)))

set_option maxRecDepth 20000 in
set_option maxHeartbeats 1000000 in
theorem keelsonlaw23_WindowPlays_s (p0 : Int) (p1 : Int) (p2 : Sl) (H : PH) (Q : Bool → PH → Prop) (h : keelsonlaw23_WindowPlays p0 p1 p2 H Q) :
    CallsH Try.prog 5 #[.int .i64 p0, .int .i64 p1, Sl.v p2] H (fun v H' => ∃ (r0 : Bool), v = .bool r0 ∧ Q r0 H') := by
  unfold keelsonlaw23_WindowPlays at h
  refine callsH_of_go Try.func5 rfl Try.ntmps5 (Nat.le_of_ble_eq_true rfl) ?_
  refine Go.seq ?_
  refine Go.region rfl ?_
  refine GoOps.q (v := .bool false) rfl rfl (by decide) (q_assign rfl) ?_
  refine GoOps.nil ?_
  refine Go.seq ?_
  refine Go.seq ?_
  refine Go.region rfl ?_
  refine GoOps.q (v := Sl.v p2) rfl rfl (by decide) (q_move rfl) ?_
  refine GoOps.q (v := .int .i64 (p2.len : Int)) rfl rfl (by decide) (q_len Try.underlying38 rfl (ls1 rfl)) ?_
  refine GoOps.q (v := .bool (decide (60 < (p2.len : Int)))) rfl rfl (by decide) (q_gtr rfl rfl) ?_
  refine GoOps.nil ?_
  rcases bor (decide (60 < (p2.len : Int))) with hc1 | hc1
  · have h := h.1 hc1
    refine Go.condT (btT rfl hc1) ?_
    refine Go.seq ?_
    refine Go.region rfl ?_
    refine call_dst rfl (by decide) body7 (keelsonlaw23_awake_s _ _ h) rfl ?_
    rintro _ H2 ⟨y3, rfl, h⟩
    refine GoOps.q (v := .bool y3) rfl rfl (by decide) (q_assign rfl) ?_
    refine GoOps.nil ?_
    exact Go.ret ⟨.inl rfl, _, _, DOk.nil, (resOk1 Try.results5 rfl), ⟨_, rfl, h⟩⟩
  · have h := h.2 hc1
    refine Go.condF (btF rfl hc1) ?_
    refine Go.skip ?_
    refine Go.seq ?_
    refine Go.region rfl ?_
    refine GoOps.q (v := .int .i64 p0) rfl rfl (by decide) (q_move rfl) ?_
    refine GoOps.q (v := .int .i64 p1) rfl rfl (by decide) (q_move rfl) ?_
    refine call_dst rfl (by decide) body8 (window_New_int_s _ _ _ _ h) rfl ?_
    rintro _ H4 ⟨y5, rfl, h⟩
    refine GoOps.q (v := .pointer y5) rfl rfl (by decide) (q_assign rfl) ?_
    refine GoOps.nil ?_
    refine Go.seq ?_
    refine Go.region rfl ?_
    refine GoOps.q (v := .int .i64 p0) rfl rfl (by decide) (q_move rfl) ?_
    refine GoOps.q (v := .int .i64 p1) rfl rfl (by decide) (q_move rfl) ?_
    refine call_dst rfl (by decide) body16 (keelsonref22_NewWindow_s _ _ _ _ h) rfl ?_
    rintro _ H6 ⟨y7, rfl, h⟩
    refine GoOps.q (v := .pointer y7) rfl rfl (by decide) (q_assign rfl) ?_
    refine GoOps.nil ?_
    refine Go.seq ?_
    refine Go.seq ?_
    refine Go.region rfl ?_
    refine GoOps.q (v := .pointer y7) rfl rfl (by decide) (q_move rfl) ?_
    refine GoOps.q (v := .bool (Option.isNone y7)) rfl rfl (by decide) (q_eqlPn Try.underlying39 rfl rfl) ?_
    refine GoOps.nil ?_
    rcases bor (Option.isNone y7) with hc8 | hc8
    · have h := h.1 hc8
      refine Go.condT (btT rfl hc8) ?_
      refine Go.seq ?_
      refine Go.region rfl ?_
      refine GoOps.q (v := .pointer y5) rfl rfl (by decide) (q_move rfl) ?_
      refine GoOps.q (v := .bool (Option.isNone y5)) rfl rfl (by decide) (q_eqlPn Try.underlying24 rfl rfl) ?_
      refine GoOps.q (v := .bool (Option.isNone y5)) rfl rfl (by decide) (q_move rfl) ?_
      refine join_ops 2 (fun ρ (s10 : Bool) => ρ 37 = .bool s10) h ?_ ?_ <;> clear h
      · intro s10 H12 ρ h hE
        have e13_37 := hE
        refine GoOps.q (v := .bool s10) rfl rfl (by decide) (q_assign e13_37) ?_
        refine GoOps.nil ?_
        exact Go.ret ⟨.inl rfl, _, _, DOk.nil, (resOk1 Try.results5 rfl), ⟨_, rfl, h⟩⟩
      · intro j11 hj11 h
        rcases bor (Option.isNone y5) with hc9 | hc9
        · have h := h.1 hc9
          refine call_dst (want_yes rfl rfl rfl hc9) (by decide) body7 (keelsonlaw23_awake_s _ _ h) rfl ?_
          rintro _ H14 ⟨y15, rfl, h⟩
          refine GoOps.q (v := .bool y15) rfl rfl (by decide) (q_pickT (btT rfl hc9) rfl) ?_
          exact hj11 y15 _ _ h (by exact rfl)
        · have h := h.2 hc9
          refine no_dst (want_no rfl rfl rfl hc9) rfl (by decide) ?_
          refine GoOps.q (v := .bool false) rfl rfl (by decide) (q_pickF (btF rfl hc9) rfl) ?_
          exact hj11 false _ _ h (by exact rfl)
    · have h := h.2 hc8
      refine Go.condF (btF rfl hc8) ?_
      refine Go.skip ?_
      refine Go.seq ?_
      refine Go.seq ?_
      refine Go.region rfl ?_
      refine GoOps.q (v := .pointer y5) rfl rfl (by decide) (q_move rfl) ?_
      refine GoOps.q (v := .bool (Option.isNone y5)) rfl rfl (by decide) (q_eqlPn Try.underlying24 rfl rfl) ?_
      refine GoOps.nil ?_
      rcases bor (Option.isNone y5) with hc16 | hc16
      · have h := h.1 hc16
        refine Go.condT (btT rfl hc16) ?_
        refine Go.seq ?_
        refine Go.region rfl ?_
        refine GoOps.q (v := .bool false) rfl rfl (by decide) (q_assign rfl) ?_
        refine GoOps.nil ?_
        exact Go.ret ⟨.inl rfl, _, _, DOk.nil, (resOk1 Try.results5 rfl), ⟨_, rfl, h⟩⟩
      · have h := h.2 hc16
        refine Go.condF (btF rfl hc16) ?_
        refine Go.skip ?_
        refine Go.seq ?_
        refine Go.seq ?_
        refine Go.region rfl ?_
        refine GoOps.q (v := .int .i64 0) rfl rfl (by decide) (q_assign rfl) ?_
        refine GoOps.nil ?_
        refine Go.block ?_
        refine loop_go (fun ρ (s17 : Int) => ρ 2 = Sl.v p2 ∧ ρ 7 = .pointer y5 ∧ ρ 8 = .pointer y7 ∧ ρ 9 = .int .i64 s17) h ⟨rfl, rfl, rfl, rfl⟩ ?_
        clear h
        intro ρ s17 H20 again18 hE h hagain18
        obtain ⟨e19_2, e19_7, e19_8, e19_9⟩ := hE
        refine Go.seq ?_
        refine Go.seq ?_
        refine Go.region rfl ?_
        refine GoOps.q (v := .int .i64 s17) rfl rfl (by decide) (q_move e19_9) ?_
        refine GoOps.q (v := Sl.v p2) rfl rfl (by decide) (q_move e19_2) ?_
        refine GoOps.q (v := .int .i64 (p2.len : Int)) rfl rfl (by decide) (q_len Try.underlying38 rfl (ls1 rfl)) ?_
        refine GoOps.q (v := .bool (decide (s17 < (p2.len : Int)))) rfl rfl (by decide) (q_lss rfl rfl) ?_
        refine GoOps.nil ?_
        rcases bor (decide (s17 < (p2.len : Int))) with hc21 | hc21
        · have h := h.1 hc21
          refine Go.condT (btT rfl hc21) ?_
          refine Go.skip ?_
          refine Go.seq ?_
          refine Go.block ?_
          refine Go.seq ?_
          refine Go.region rfl ?_
          refine GoOps.q (v := Sl.v p2) rfl rfl (by decide) (q_move e19_2) ?_
          refine GoOps.q (v := .int .i64 s17) rfl rfl (by decide) (q_move e19_9) ?_
          obtain ⟨a22, ha23, h⟩ := h
          refine GoOps.q (v := .pointer (some a22)) rfl rfl (by decide) (q_idx slice38 ha23 rfl rfl) ?_
          obtain ⟨x24, hx25, h⟩ := h
          refine GoOps.q (v := .agg ([.int .i64 x24.1, .int .i64 x24.2.1, .int .i64 x24.2.2] : List Value).toArray) rfl rfl (by decide) (q_loadA aggr42 rfl hx25) ?_
          refine op_dst rfl rfl (by decide) (do_new zero42 rfl fun a26 H27 hb28 => ?_) 
          have h := h a26 H27 hb28
          obtain ⟨q30b, q30o, q30c, q30e, hq30a, hq30b, hq30l, hq30v, h⟩ := h
          refine op_none rfl rfl (do_store (vs := [.int .i64 x24.1, .int .i64 x24.2.1, .int .i64 x24.2.2]) size42 (pta rfl hq30a) rfl rfl rfl hq30v hq30b hq30l ?_) 
          refine GoOps.nil ?_
          refine Go.seq ?_
          refine Go.seq ?_
          refine Go.region rfl ?_
          refine GoOps.q (v := .pointer (some (a26.add 0))) rfl rfl (by decide) (q_fieldAddr foff42_0 rfl) ?_
          obtain ⟨x31, hx32, h⟩ := h
          refine GoOps.q (v := .int .i64 x31) rfl rfl (by decide) (q_load scalar3 rfl hx32) ?_
          refine GoOps.nil ?_
          refine join_go 1 (fun ρ (s33 : Unit) => ρ 2 = Sl.v p2 ∧ ρ 7 = .pointer y5 ∧ ρ 8 = .pointer y7 ∧ ρ 9 = .int .i64 s17) h ?_ ?_ <;> clear h
          · intro s33 H35 ρ h hE
            obtain ⟨e36_2, e36_7, e36_8, e36_9⟩ := hE
            refine Go.seq ?_
            refine Go.region rfl ?_
            refine GoOps.q (v := .pointer y5) rfl rfl (by decide) (q_move e36_7) ?_
            refine call_dst rfl (by decide) body13 (keelsonlaw23_all_s _ _ _ _ h) rfl ?_
            rintro _ H37 ⟨y38, y39, rfl, h⟩
            refine GoOps.q (v := .tuple #[Sl.v y38, Sl.v y39]) rfl rfl (by decide) (q_move rfl) ?_
            refine GoOps.q (v := Sl.v y38) rfl rfl (by decide) (q_extract rfl rfl) ?_
            refine GoOps.q (v := Sl.v y39) rfl rfl (by decide) (q_extract rfl rfl) ?_
            refine GoOps.q (v := Sl.v y38) rfl rfl (by decide) (q_assign rfl) ?_
            refine GoOps.q (v := Sl.v y39) rfl rfl (by decide) (q_assign rfl) ?_
            refine GoOps.nil ?_
            refine Go.seq ?_
            refine Go.draw mixed ?_
            refine plan_pure (i := 0) (d := 132) (S2 := 1) (v := .pointer y5) rfl (by decide +kernel) rfl (q_move e36_7) ?_
            refine plan_pure (i := 2) (d := 134) (S2 := 5) (v := .pointer y7) rfl (by decide +kernel) rfl (q_move e36_8) ?_
            obtain ⟨a40, ha41, h⟩ := h
            refine plan_pure (i := 3) (d := 135) (S2 := 13) (v := .pointer (some a40)) rfl (by decide +kernel) rfl (q_nilCheck (ptn rfl ha41)) ?_
            refine plan_pure (i := 4) (d := 136) (S2 := 29) (v := .pointer (some (a40.add 1))) rfl (by decide +kernel) rfl (q_fieldAddr foff52_1 rfl) ?_
            obtain ⟨x42, hx43, h⟩ := h
            refine plan_load (i := 5) (d := 137) (S2 := 61) (v := .int .i64 x42) rfl (by decide +kernel) rfl (q_load scalar3 rfl hx43) ?_
            refine plan_one (j := 1) (S2 := 63) (by decide +kernel) rfl (by decide) rfl ?_
            refine do_call2 body12 (window_Window_int_Next_s _ _ _ h) rfl ?_
            rintro _ H44 ⟨y45, rfl, h⟩
            obtain ⟨hr46, h⟩ := h
            refine ⟨_, (.inr ⟨⟨_, _, rfl, rfl, q_load scalar3 rfl hr46⟩, _, rfl, rfl⟩), ?_⟩
            refine plan_pure (i := 6) (d := 138) (S2 := 127) (v := .bool (y45 != x42)) rfl (by decide +kernel) rfl (q_neq rfl rfl) ?_
            refine plan_pure (i := 7) (d := 139) (S2 := 255) (v := .bool (y45 != x42)) rfl (by decide +kernel) rfl (q_move rfl) ?_
            refine join_plan 131071 [13, 5] (fun ρ (s48 : Bool) => ρ 2 = Sl.v p2 ∧ ρ 7 = .pointer y5 ∧ ρ 8 = .pointer y7 ∧ ρ 9 = .int .i64 s17 ∧ ρ 19 = Sl.v y38 ∧ ρ 148 = .bool s48) h ?_ ?_ <;> clear h
            · intro s48 H50 ρ h hE
              obtain ⟨e51_2, e51_7, e51_8, e51_9, e51_19, e51_148⟩ := hE
              refine plan_pure (i := 17) (d := 149) (S2 := 262143) (v := .bool s48) rfl (by decide +kernel) rfl (q_move e51_148) ?_
              refine join_plan 16777215 [13, 5] (fun ρ (s53 : Bool) => ρ 2 = Sl.v p2 ∧ ρ 7 = .pointer y5 ∧ ρ 8 = .pointer y7 ∧ ρ 9 = .int .i64 s17 ∧ ρ 155 = .bool s53) h ?_ ?_ <;> clear h
              · intro s53 H55 ρ h hE
                obtain ⟨e56_2, e56_7, e56_8, e56_9, e56_155⟩ := hE
                refine plan_done (by decide +kernel) ?_
                rcases bor s53 with hc57 | hc57
                · have h := h.1 hc57
                  refine Go.condT (btT e56_155 hc57) ?_
                  refine Go.seq ?_
                  refine Go.region rfl ?_
                  refine GoOps.q (v := .bool false) rfl rfl (by decide) (q_assign rfl) ?_
                  refine GoOps.nil ?_
                  exact Go.ret ⟨.inl rfl, _, _, DOk.nil, (resOk1 Try.results5 rfl), ⟨_, rfl, h⟩⟩
                · have h := h.2 hc57
                  refine Go.condF (btF e56_155 hc57) ?_
                  refine Go.skip ?_
                  refine Go.inBlock ?_
                  refine Go.region rfl ?_
                  refine GoOps.q (v := .int .i64 s17) rfl rfl (by decide) (q_move e56_9) ?_
                  refine GoOps.q (v := .int .i64 (IntKind.wrap .i64 (s17 + 1))) rfl rfl (by decide) (q_add rfl rfl) ?_
                  refine GoOps.q (v := .int .i64 (IntKind.wrap .i64 (s17 + 1))) rfl rfl (by decide) (q_assign rfl) ?_
                  refine GoOps.nil ?_
                  exact hagain18 _ _ _ h ⟨e56_2, e56_7, e56_8, rfl⟩
              · intro j54 hj54 h
                rcases bor s48 with hc52 | hc52
                · have h := h.1 hc52
                  refine plan_skip (i := 18) (d := 150) (S2 := 524287) rfl (by decide +kernel) (want_no rfl rfl rfl hc52) ?_
                  refine plan_skip (i := 19) (d := 151) (S2 := 1048575) rfl (by decide +kernel) (want_no rfl rfl rfl hc52) ?_
                  refine plan_skip (i := 20) (d := 152) (S2 := 2097151) rfl (by decide +kernel) (want_no rfl rfl rfl hc52) ?_
                  refine plan_skip (i := 21) (d := 153) (S2 := 4194303) rfl (by decide +kernel) (want_no rfl rfl rfl hc52) ?_
                  refine plan_skip (i := 22) (d := 154) (S2 := 8388607) rfl (by decide +kernel) (want_no rfl rfl rfl hc52) ?_
                  refine plan_pure (i := 23) (d := 155) (S2 := 16777215) (v := .bool true) rfl (by decide +kernel) rfl (q_pickT (btT rfl hc52) rfl) ?_
                  exact hj54 _ _ _ h ⟨e51_2, e51_7, e51_8, e51_9, rfl⟩
                · have h := h.2 hc52
                  refine plan_pure (i := 18) (d := 150) (S2 := 524287) (v := Sl.v y38) rfl (by decide +kernel) (want_yes rfl rfl rfl hc52) (q_move e51_19) ?_
                  refine plan_pure (i := 19) (d := 151) (S2 := 1048575) (v := .pointer y7) rfl (by decide +kernel) (want_yes rfl rfl rfl hc52) (q_move e51_8) ?_
                  refine plan_one (j := 20) (S2 := 2097151) (by decide +kernel) rfl (by decide) (want_yes rfl rfl rfl hc52) ?_
                  refine do_call2 body25 (keelsonref22_Window_Numbers_s _ _ _ h) rfl ?_
                  rintro _ H58 ⟨y59, rfl, h⟩
                  refine ⟨_, (.inl ⟨⟨[14, 15, 16, 17, 20], by decide +kernel, rfl⟩, .inl ⟨⟨[6, 7, 9, 17, 20], by decide +kernel, rfl⟩, rfl⟩⟩), ?_⟩
                  refine plan_one (j := 21) (S2 := 4194303) (by decide +kernel) rfl (by decide) (want_yes rfl rfl rfl hc52) ?_
                  refine do_call2 body15 (keelsonalike_Ints_s _ _ _ _ h) rfl ?_
                  rintro _ H60 ⟨y61, rfl, h⟩
                  refine ⟨_, rfl, ?_⟩
                  refine plan_pure (i := 22) (d := 154) (S2 := 8388607) (v := .bool (!y61)) rfl (by decide +kernel) (want_yes rfl rfl rfl hc52) (q_not rfl) ?_
                  refine plan_pure (i := 23) (d := 155) (S2 := 16777215) (v := .bool (!y61)) rfl (by decide +kernel) rfl (q_pickF (btF rfl hc52) rfl) ?_
                  refine plan_weaken (L2 := [13, 5]) (by decide) ?_
                  exact hj54 _ _ _ h ⟨e51_2, e51_7, e51_8, e51_9, rfl⟩
            · intro j49 hj49 h
              rcases bor (y45 != x42) with hc47 | hc47
              · have h := h.1 hc47
                refine plan_skip (i := 8) (d := 140) (S2 := 511) rfl (by decide +kernel) (want_no rfl rfl rfl hc47) ?_
                refine plan_skip (i := 9) (d := 141) (S2 := 1023) rfl (by decide +kernel) (want_no rfl rfl rfl hc47) ?_
                refine plan_skip (i := 10) (d := 142) (S2 := 2047) rfl (by decide +kernel) (want_no rfl rfl rfl hc47) ?_
                refine plan_skip (i := 11) (d := 143) (S2 := 4095) rfl (by decide +kernel) (want_no rfl rfl rfl hc47) ?_
                refine plan_skip (i := 12) (d := 144) (S2 := 8191) rfl (by decide +kernel) (want_no rfl rfl rfl hc47) ?_
                refine plan_skip (i := 13) (d := 145) (S2 := 16383) rfl (by decide +kernel) (want_no rfl rfl rfl hc47) ?_
                refine plan_skip (i := 14) (d := 146) (S2 := 32767) rfl (by decide +kernel) (want_no rfl rfl rfl hc47) ?_
                refine plan_skip (i := 15) (d := 147) (S2 := 65535) rfl (by decide +kernel) (want_no rfl rfl rfl hc47) ?_
                refine plan_pure (i := 16) (d := 148) (S2 := 131071) (v := .bool true) rfl (by decide +kernel) rfl (q_pickT (btT rfl hc47) rfl) ?_
                refine plan_weaken (L2 := [13, 5]) (by decide) ?_
                exact hj49 _ _ _ h ⟨e36_2, e36_7, e36_8, e36_9, rfl, rfl⟩
              · have h := h.2 hc47
                refine plan_pure (i := 8) (d := 140) (S2 := 511) (v := .pointer y5) rfl (by decide +kernel) (want_yes rfl rfl rfl hc47) (q_move e36_7) ?_
                refine plan_pure (i := 10) (d := 142) (S2 := 1535) (v := .pointer y7) rfl (by decide +kernel) (want_yes rfl rfl rfl hc47) (q_move e36_8) ?_
                obtain ⟨a62, ha63, h⟩ := h
                refine plan_pure (i := 11) (d := 143) (S2 := 3583) (v := .pointer (some a62)) rfl (by decide +kernel) (want_yes rfl rfl rfl hc47) (q_nilCheck (ptn rfl ha63)) ?_
                refine plan_pure (i := 12) (d := 144) (S2 := 7679) (v := .pointer (some (a62.add 2))) rfl (by decide +kernel) (want_yes rfl rfl rfl hc47) (q_fieldAddr foff52_2 rfl) ?_
                obtain ⟨x64, hx65, h⟩ := h
                refine plan_load (i := 13) (d := 145) (S2 := 15871) (v := Sl.v x64) rfl (by decide +kernel) (want_yes rfl rfl rfl hc47) (q_load scalar50 rfl hx65) ?_
                refine plan_pure (i := 14) (d := 146) (S2 := 32255) (v := .int .i64 (x64.len : Int)) rfl (by decide +kernel) (want_yes rfl rfl rfl hc47) (q_len Try.underlying50 rfl (ls1 rfl)) ?_
                refine plan_one (j := 9) (S2 := 32767) (by decide +kernel) rfl (by decide) (want_yes rfl rfl rfl hc47) ?_
                refine do_call2 body14 (window_Window_int_Len_s _ _ _ h) rfl ?_
                rintro _ H66 ⟨y67, rfl, h⟩
                obtain ⟨hr68, h⟩ := h
                refine ⟨_, (.inr ⟨⟨_, _, rfl, rfl, q_load scalar50 rfl hr68⟩, _, rfl, .inl ⟨⟨[6, 7, 9], by decide +kernel, rfl⟩, rfl⟩⟩), ?_⟩
                refine plan_pure (i := 15) (d := 147) (S2 := 65535) (v := .bool (y67 != (x64.len : Int))) rfl (by decide +kernel) (want_yes rfl rfl rfl hc47) (q_neq rfl rfl) ?_
                refine plan_pure (i := 16) (d := 148) (S2 := 131071) (v := .bool (y67 != (x64.len : Int))) rfl (by decide +kernel) rfl (q_pickF (btF rfl hc47) rfl) ?_
                refine plan_weaken (L2 := [13, 5]) (by decide) ?_
                exact hj49 _ _ _ h ⟨e36_2, e36_7, e36_8, e36_9, rfl, rfl⟩
          · intro j34 hj34 h
            refine Go.block ?_
            refine Go.seq ?_
            refine Go.region rfl ?_
            refine GoOps.q (v := .bool (x31 == 1)) rfl rfl (by decide) (q_eql rfl rfl) ?_
            refine GoOps.q (v := .bool (x31 == 1)) rfl rfl (by decide) (q_assign rfl) ?_
            refine GoOps.nil ?_
            rcases bor (x31 == 1) with hc69 | hc69
            · have h := h.1 hc69
              refine Go.condT (btT rfl hc69) ?_
              refine Go.seq ?_
              refine Go.draw mixed ?_
              refine plan_pure (i := 0) (d := 54) (S2 := 1) (v := .pointer y5) rfl (by decide +kernel) rfl (q_move e19_7) ?_
              refine plan_pure (i := 1) (d := 55) (S2 := 3) (v := .pointer (some (a26.add 1))) rfl (by decide +kernel) rfl (q_fieldAddr foff42_1 rfl) ?_
              obtain ⟨x70, hx71, h⟩ := h
              refine plan_load (i := 2) (d := 56) (S2 := 7) (v := .int .i64 x70) rfl (by decide +kernel) rfl (q_load scalar3 rfl hx71) ?_
              refine plan_pure (i := 3) (d := 57) (S2 := 15) (v := .pointer (some (a26.add 2))) rfl (by decide +kernel) rfl (q_fieldAddr foff42_2 rfl) ?_
              obtain ⟨x72, hx73, h⟩ := h
              refine plan_load (i := 4) (d := 58) (S2 := 31) (v := .int .i64 x72) rfl (by decide +kernel) rfl (q_load scalar3 rfl hx73) ?_
              refine plan_pure (i := 6) (d := 60) (S2 := 95) (v := .pointer y7) rfl (by decide +kernel) rfl (q_move e19_8) ?_
              refine plan_pure (i := 7) (d := 61) (S2 := 223) (v := .pointer (some (a26.add 1))) rfl (by decide +kernel) rfl (q_fieldAddr foff42_1 rfl) ?_
              obtain ⟨x74, hx75, h⟩ := h
              refine plan_load (i := 8) (d := 62) (S2 := 479) (v := .int .i64 x74) rfl (by decide +kernel) rfl (q_load scalar3 rfl hx75) ?_
              refine plan_pure (i := 9) (d := 63) (S2 := 991) (v := .pointer (some (a26.add 2))) rfl (by decide +kernel) rfl (q_fieldAddr foff42_2 rfl) ?_
              obtain ⟨x76, hx77, h⟩ := h
              refine plan_load (i := 10) (d := 64) (S2 := 2015) (v := .int .i64 x76) rfl (by decide +kernel) rfl (q_load scalar3 rfl hx77) ?_
              refine plan_pure (i := 11) (d := 65) (S2 := 4063) (v := .agg ([.int .i64 0, .int .i64 x76, .int .i64 0, .int .i64 0, Sl.v Sl.nil] : List Value).toArray) rfl (by decide +kernel) rfl (q_build (ps := [(1, .int .i64 x76)]) (cs := [.int .i64 0, .int .i64 x76, .int .i64 0, .int .i64 0, Sl.v Sl.nil]) places46 zero46 rfl rfl rfl) ?_
              refine plan_one (j := 5) (S2 := 4095) (by decide +kernel) rfl (by decide) rfl ?_
              refine do_call2 body10 (window_Window_int_Put_s _ _ _ _ _ h) rfl ?_
              rintro _ H78 ⟨y79, rfl, h⟩
              obtain ⟨hr80, h⟩ := h
              obtain ⟨hr81, h⟩ := h
              refine ⟨_, (.inr ⟨⟨_, _, rfl, rfl, q_load scalar3 rfl hr80⟩, _, rfl, .inr ⟨⟨_, _, rfl, rfl, q_load scalar3 rfl hr81⟩, _, rfl, .inl ⟨⟨[5], by decide +kernel, rfl⟩, .inl ⟨⟨[5], by decide +kernel, rfl⟩, rfl⟩⟩⟩⟩), ?_⟩
              refine plan_one (j := 12) (S2 := 8191) (by decide +kernel) rfl (by decide) rfl ?_
              refine do_call2 body17 (keelsonref22_Window_Put_s _ _ _ _ _ h) rfl ?_
              rintro _ H82 ⟨y83, rfl, h⟩
              refine ⟨_, (.inl ⟨⟨[11, 12], by decide +kernel, rfl⟩, .inl ⟨⟨[12], by decide +kernel, rfl⟩, rfl⟩⟩), ?_⟩
              refine plan_pure (i := 13) (d := 67) (S2 := 16383) (v := .bool (y79 != y83)) rfl (by decide +kernel) rfl (q_neq rfl rfl) ?_
              refine plan_done (by decide +kernel) ?_
              rcases bor (y79 != y83) with hc84 | hc84
              · have h := h.1 hc84
                refine Go.condT (btT rfl hc84) ?_
                refine Go.seq ?_
                refine Go.region rfl ?_
                refine GoOps.q (v := .bool false) rfl rfl (by decide) (q_assign rfl) ?_
                refine GoOps.nil ?_
                exact Go.ret ⟨.inl rfl, _, _, DOk.nil, (resOk1 Try.results5 rfl), ⟨_, rfl, h⟩⟩
              · have h := h.2 hc84
                refine Go.condF (btF rfl hc84) ?_
                refine Go.skip ?_
                refine Go.inBlock ?_
                exact hj34 _ _ _ h ⟨e19_2, e19_7, e19_8, e19_9⟩
            · have h := h.2 hc69
              refine Go.condF (btF rfl hc69) ?_
              refine Go.seq ?_
              refine Go.region rfl ?_
              refine GoOps.q (v := .bool (x31 == 2)) rfl rfl (by decide) (q_eql rfl rfl) ?_
              refine GoOps.q (v := .bool (x31 == 2)) rfl rfl (by decide) (q_assign rfl) ?_
              refine GoOps.nil ?_
              rcases bor (x31 == 2) with hc85 | hc85
              · have h := h.1 hc85
                refine Go.condT (btT rfl hc85) ?_
                refine Go.seq ?_
                refine Go.region rfl ?_
                refine GoOps.q (v := .pointer y5) rfl rfl (by decide) (q_move e19_7) ?_
                refine call_dst rfl (by decide) body18 (window_Window_int_Peek_s _ _ _ h) rfl ?_
                rintro _ H86 ⟨y87, y88, rfl, h⟩
                refine GoOps.q (v := .tuple #[.int .i64 y87, .bool y88]) rfl rfl (by decide) (q_move rfl) ?_
                refine GoOps.q (v := .int .i64 y87) rfl rfl (by decide) (q_extract rfl rfl) ?_
                refine GoOps.q (v := .bool y88) rfl rfl (by decide) (q_extract rfl rfl) ?_
                refine GoOps.q (v := .int .i64 y87) rfl rfl (by decide) (q_assign rfl) ?_
                refine GoOps.q (v := .bool y88) rfl rfl (by decide) (q_assign rfl) ?_
                refine GoOps.nil ?_
                refine Go.seq ?_
                refine Go.region rfl ?_
                refine GoOps.q (v := .pointer y7) rfl rfl (by decide) (q_move e19_8) ?_
                refine call_dst rfl (by decide) body19 (keelsonref22_Window_Peek_s _ _ _ h) rfl ?_
                rintro _ H89 ⟨y90, y91, rfl, h⟩
                refine GoOps.q (v := .tuple #[.agg ([.int .i64 y90.1, .int .i64 y90.2.1, .int .i64 y90.2.2.1, .int .i64 y90.2.2.2.1, Sl.v y90.2.2.2.2] : List Value).toArray, .bool y91]) rfl rfl (by decide) (q_move rfl) ?_
                refine GoOps.q (v := .agg ([.int .i64 y90.1, .int .i64 y90.2.1, .int .i64 y90.2.2.1, .int .i64 y90.2.2.2.1, Sl.v y90.2.2.2.2] : List Value).toArray) rfl rfl (by decide) (q_extract rfl rfl) ?_
                refine GoOps.q (v := .bool y91) rfl rfl (by decide) (q_extract rfl rfl) ?_
                refine op_dst rfl rfl (by decide) (do_new zero46 rfl fun a92 H93 hb94 => ?_) 
                have h := h a92 H93 hb94
                obtain ⟨q96b, q96o, q96c, q96e, hq96a, hq96b, hq96l, hq96v, h⟩ := h
                refine op_none rfl rfl (do_store (vs := [.int .i64 y90.1, .int .i64 y90.2.1, .int .i64 y90.2.2.1, .int .i64 y90.2.2.2.1, Sl.v y90.2.2.2.2]) size46 (pta rfl hq96a) rfl rfl rfl hq96v hq96b hq96l ?_) 
                refine GoOps.q (v := .bool y91) rfl rfl (by decide) (q_assign rfl) ?_
                refine GoOps.nil ?_
                refine Go.seq ?_
                refine Go.region rfl ?_
                refine GoOps.q (v := .bool y88) rfl rfl (by decide) (q_move rfl) ?_
                refine GoOps.q (v := .bool y91) rfl rfl (by decide) (q_move rfl) ?_
                refine GoOps.q (v := .bool (y88 != y91)) rfl rfl (by decide) (q_neqB Try.underlying4 rfl rfl) ?_
                refine GoOps.q (v := .bool (y88 != y91)) rfl rfl (by decide) (q_move rfl) ?_
                refine join_ops 5 (fun ρ (s98 : Bool) => ρ 2 = Sl.v p2 ∧ ρ 7 = .pointer y5 ∧ ρ 8 = .pointer y7 ∧ ρ 9 = .int .i64 s17 ∧ ρ 88 = .bool s98) h ?_ ?_ <;> clear h
                · intro s98 H100 ρ h hE
                  obtain ⟨e101_2, e101_7, e101_8, e101_9, e101_88⟩ := hE
                  refine GoOps.nil ?_
                  rcases bor s98 with hc102 | hc102
                  · have h := h.1 hc102
                    refine Go.condT (btT e101_88 hc102) ?_
                    refine Go.seq ?_
                    refine Go.region rfl ?_
                    refine GoOps.q (v := .bool false) rfl rfl (by decide) (q_assign rfl) ?_
                    refine GoOps.nil ?_
                    exact Go.ret ⟨.inl rfl, _, _, DOk.nil, (resOk1 Try.results5 rfl), ⟨_, rfl, h⟩⟩
                  · have h := h.2 hc102
                    refine Go.condF (btF e101_88 hc102) ?_
                    refine Go.skip ?_
                    refine Go.inBlock ?_
                    exact hj34 _ _ _ h ⟨e101_2, e101_7, e101_8, e101_9⟩
                · intro j99 hj99 h
                  rcases bor (y88 != y91) with hc97 | hc97
                  · have h := h.1 hc97
                    refine no_dst (want_no rfl rfl rfl hc97) rfl (by decide) ?_
                    refine no_dst (want_no rfl rfl rfl hc97) rfl (by decide) ?_
                    refine no_dst (want_no rfl rfl rfl hc97) rfl (by decide) ?_
                    refine no_dst (want_no rfl rfl rfl hc97) rfl (by decide) ?_
                    refine GoOps.q (v := .bool true) rfl rfl (by decide) (q_pickT (btT rfl hc97) rfl) ?_
                    exact hj99 true _ _ h (by exact ⟨e19_2, e19_7, e19_8, e19_9, rfl⟩)
                  · have h := h.2 hc97
                    refine GoOps.q (v := .int .i64 y87) (want_yes rfl rfl rfl hc97) rfl (by decide) (q_move rfl) ?_
                    refine GoOps.q (v := .pointer (some (a92.add 1))) (want_yes rfl rfl rfl hc97) rfl (by decide) (q_fieldAddr foff46_1 rfl) ?_
                    obtain ⟨x103, hx104, h⟩ := h
                    refine GoOps.q (v := .int .i64 x103) (want_yes rfl rfl rfl hc97) rfl (by decide) (q_load scalar3 rfl hx104) ?_
                    refine GoOps.q (v := .bool (y87 != x103)) (want_yes rfl rfl rfl hc97) rfl (by decide) (q_neq rfl rfl) ?_
                    refine GoOps.q (v := .bool (y87 != x103)) rfl rfl (by decide) (q_pickF (btF rfl hc97) rfl) ?_
                    exact hj99 (y87 != x103) _ _ h (by exact ⟨e19_2, e19_7, e19_8, e19_9, rfl⟩)
              · have h := h.2 hc85
                refine Go.condF (btF rfl hc85) ?_
                refine Go.seq ?_
                refine Go.region rfl ?_
                refine GoOps.q (v := .bool (x31 == 3)) rfl rfl (by decide) (q_eql rfl rfl) ?_
                refine GoOps.q (v := .bool (x31 == 3)) rfl rfl (by decide) (q_assign rfl) ?_
                refine GoOps.nil ?_
                rcases bor (x31 == 3) with hc105 | hc105
                · have h := h.1 hc105
                  refine Go.condT (btT rfl hc105) ?_
                  refine Go.seq ?_
                  refine Go.region rfl ?_
                  refine GoOps.q (v := .pointer y5) rfl rfl (by decide) (q_move e19_7) ?_
                  refine call_dst rfl (by decide) body11 (window_Window_int_Pop_s _ _ _ h) rfl ?_
                  rintro _ H106 ⟨y107, y108, rfl, h⟩
                  refine GoOps.q (v := .tuple #[.int .i64 y107, .bool y108]) rfl rfl (by decide) (q_move rfl) ?_
                  refine GoOps.q (v := .int .i64 y107) rfl rfl (by decide) (q_extract rfl rfl) ?_
                  refine GoOps.q (v := .bool y108) rfl rfl (by decide) (q_extract rfl rfl) ?_
                  refine GoOps.q (v := .int .i64 y107) rfl rfl (by decide) (q_assign rfl) ?_
                  refine GoOps.q (v := .bool y108) rfl rfl (by decide) (q_assign rfl) ?_
                  refine GoOps.nil ?_
                  refine Go.seq ?_
                  refine Go.region rfl ?_
                  refine GoOps.q (v := .pointer y7) rfl rfl (by decide) (q_move e19_8) ?_
                  refine call_dst rfl (by decide) body20 (keelsonref22_Window_Pop_s _ _ _ h) rfl ?_
                  rintro _ H109 ⟨y110, y111, rfl, h⟩
                  refine GoOps.q (v := .tuple #[.agg ([.int .i64 y110.1, .int .i64 y110.2.1, .int .i64 y110.2.2.1, .int .i64 y110.2.2.2.1, Sl.v y110.2.2.2.2] : List Value).toArray, .bool y111]) rfl rfl (by decide) (q_move rfl) ?_
                  refine GoOps.q (v := .agg ([.int .i64 y110.1, .int .i64 y110.2.1, .int .i64 y110.2.2.1, .int .i64 y110.2.2.2.1, Sl.v y110.2.2.2.2] : List Value).toArray) rfl rfl (by decide) (q_extract rfl rfl) ?_
                  refine GoOps.q (v := .bool y111) rfl rfl (by decide) (q_extract rfl rfl) ?_
                  refine op_dst rfl rfl (by decide) (do_new zero46 rfl fun a112 H113 hb114 => ?_) 
                  have h := h a112 H113 hb114
                  obtain ⟨q116b, q116o, q116c, q116e, hq116a, hq116b, hq116l, hq116v, h⟩ := h
                  refine op_none rfl rfl (do_store (vs := [.int .i64 y110.1, .int .i64 y110.2.1, .int .i64 y110.2.2.1, .int .i64 y110.2.2.2.1, Sl.v y110.2.2.2.2]) size46 (pta rfl hq116a) rfl rfl rfl hq116v hq116b hq116l ?_) 
                  refine GoOps.q (v := .bool y111) rfl rfl (by decide) (q_assign rfl) ?_
                  refine GoOps.nil ?_
                  refine Go.seq ?_
                  refine Go.region rfl ?_
                  refine GoOps.q (v := .bool y108) rfl rfl (by decide) (q_move rfl) ?_
                  refine GoOps.q (v := .bool y111) rfl rfl (by decide) (q_move rfl) ?_
                  refine GoOps.q (v := .bool (y108 != y111)) rfl rfl (by decide) (q_neqB Try.underlying4 rfl rfl) ?_
                  refine GoOps.q (v := .bool (y108 != y111)) rfl rfl (by decide) (q_move rfl) ?_
                  refine join_ops 5 (fun ρ (s118 : Bool) => ρ 2 = Sl.v p2 ∧ ρ 7 = .pointer y5 ∧ ρ 8 = .pointer y7 ∧ ρ 9 = .int .i64 s17 ∧ ρ 109 = .bool s118) h ?_ ?_ <;> clear h
                  · intro s118 H120 ρ h hE
                    obtain ⟨e121_2, e121_7, e121_8, e121_9, e121_109⟩ := hE
                    refine GoOps.nil ?_
                    rcases bor s118 with hc122 | hc122
                    · have h := h.1 hc122
                      refine Go.condT (btT e121_109 hc122) ?_
                      refine Go.seq ?_
                      refine Go.region rfl ?_
                      refine GoOps.q (v := .bool false) rfl rfl (by decide) (q_assign rfl) ?_
                      refine GoOps.nil ?_
                      exact Go.ret ⟨.inl rfl, _, _, DOk.nil, (resOk1 Try.results5 rfl), ⟨_, rfl, h⟩⟩
                    · have h := h.2 hc122
                      refine Go.condF (btF e121_109 hc122) ?_
                      refine Go.skip ?_
                      refine Go.inBlock ?_
                      exact hj34 _ _ _ h ⟨e121_2, e121_7, e121_8, e121_9⟩
                  · intro j119 hj119 h
                    rcases bor (y108 != y111) with hc117 | hc117
                    · have h := h.1 hc117
                      refine no_dst (want_no rfl rfl rfl hc117) rfl (by decide) ?_
                      refine no_dst (want_no rfl rfl rfl hc117) rfl (by decide) ?_
                      refine no_dst (want_no rfl rfl rfl hc117) rfl (by decide) ?_
                      refine no_dst (want_no rfl rfl rfl hc117) rfl (by decide) ?_
                      refine GoOps.q (v := .bool true) rfl rfl (by decide) (q_pickT (btT rfl hc117) rfl) ?_
                      exact hj119 true _ _ h (by exact ⟨e19_2, e19_7, e19_8, e19_9, rfl⟩)
                    · have h := h.2 hc117
                      refine GoOps.q (v := .int .i64 y107) (want_yes rfl rfl rfl hc117) rfl (by decide) (q_move rfl) ?_
                      refine GoOps.q (v := .pointer (some (a112.add 1))) (want_yes rfl rfl rfl hc117) rfl (by decide) (q_fieldAddr foff46_1 rfl) ?_
                      obtain ⟨x123, hx124, h⟩ := h
                      refine GoOps.q (v := .int .i64 x123) (want_yes rfl rfl rfl hc117) rfl (by decide) (q_load scalar3 rfl hx124) ?_
                      refine GoOps.q (v := .bool (y107 != x123)) (want_yes rfl rfl rfl hc117) rfl (by decide) (q_neq rfl rfl) ?_
                      refine GoOps.q (v := .bool (y107 != x123)) rfl rfl (by decide) (q_pickF (btF rfl hc117) rfl) ?_
                      exact hj119 (y107 != x123) _ _ h (by exact ⟨e19_2, e19_7, e19_8, e19_9, rfl⟩)
                · have h := h.2 hc105
                  refine Go.condF (btF rfl hc105) ?_
                  refine Go.seq ?_
                  refine Go.region rfl ?_
                  refine GoOps.q (v := .bool (x31 == 4)) rfl rfl (by decide) (q_eql rfl rfl) ?_
                  refine GoOps.q (v := .bool (x31 == 4)) rfl rfl (by decide) (q_assign rfl) ?_
                  refine GoOps.nil ?_
                  rcases bor (x31 == 4) with hc125 | hc125
                  · have h := h.1 hc125
                    refine Go.condT (btT rfl hc125) ?_
                    refine Go.seq ?_
                    refine Go.region rfl ?_
                    refine GoOps.q (v := .pointer y5) rfl rfl (by decide) (q_move e19_7) ?_
                    refine call_dst rfl (by decide) body21 (window_Window_int_Cut_s _ _ _ h) rfl ?_
                    rintro _ H126 ⟨y127, rfl, h⟩
                    refine GoOps.q (v := .pointer y7) rfl rfl (by decide) (q_move e19_8) ?_
                    refine call_dst rfl (by decide) body22 (keelsonref22_Window_Cut_s _ _ _ h) rfl ?_
                    rintro _ H128 ⟨y129, rfl, h⟩
                    refine GoOps.q (v := .bool (y127 != y129)) rfl rfl (by decide) (q_neqB Try.underlying4 rfl rfl) ?_
                    refine GoOps.nil ?_
                    rcases bor (y127 != y129) with hc130 | hc130
                    · have h := h.1 hc130
                      refine Go.condT (btT rfl hc130) ?_
                      refine Go.seq ?_
                      refine Go.region rfl ?_
                      refine GoOps.q (v := .bool false) rfl rfl (by decide) (q_assign rfl) ?_
                      refine GoOps.nil ?_
                      exact Go.ret ⟨.inl rfl, _, _, DOk.nil, (resOk1 Try.results5 rfl), ⟨_, rfl, h⟩⟩
                    · have h := h.2 hc130
                      refine Go.condF (btF rfl hc130) ?_
                      refine Go.skip ?_
                      refine Go.inBlock ?_
                      exact hj34 _ _ _ h ⟨e19_2, e19_7, e19_8, e19_9⟩
                  · have h := h.2 hc125
                    refine Go.condF (btF rfl hc125) ?_
                    refine Go.seq ?_
                    refine Go.region rfl ?_
                    refine GoOps.q (v := .bool (x31 == 5)) rfl rfl (by decide) (q_eql rfl rfl) ?_
                    refine GoOps.q (v := .bool (x31 == 5)) rfl rfl (by decide) (q_assign rfl) ?_
                    refine GoOps.nil ?_
                    rcases bor (x31 == 5) with hc131 | hc131
                    · have h := h.1 hc131
                      refine Go.condT (btT rfl hc131) ?_
                      refine Go.seq ?_
                      refine Go.region rfl ?_
                      refine GoOps.q (v := .pointer y5) rfl rfl (by decide) (q_move e19_7) ?_
                      refine GoOps.q (v := .pointer (some (a26.add 1))) rfl rfl (by decide) (q_fieldAddr foff42_1 rfl) ?_
                      obtain ⟨x132, hx133, h⟩ := h
                      refine GoOps.q (v := .int .i64 x132) rfl rfl (by decide) (q_load scalar3 rfl hx133) ?_
                      refine call_dst rfl (by decide) body23 (window_Window_int_Reset_s _ _ _ _ h) rfl ?_
                      rintro _ H134 ⟨rfl, h⟩
                      refine GoOps.nil ?_
                      refine Go.region rfl ?_
                      refine GoOps.q (v := .pointer y7) rfl rfl (by decide) (q_move e19_8) ?_
                      refine GoOps.q (v := .pointer (some (a26.add 1))) rfl rfl (by decide) (q_fieldAddr foff42_1 rfl) ?_
                      obtain ⟨x135, hx136, h⟩ := h
                      refine GoOps.q (v := .int .i64 x135) rfl rfl (by decide) (q_load scalar3 rfl hx136) ?_
                      refine call_dst rfl (by decide) body24 (keelsonref22_Window_Reset_s _ _ _ _ h) rfl ?_
                      rintro _ H137 ⟨rfl, h⟩
                      refine GoOps.nil ?_
                      refine Go.inBlock ?_
                      exact hj34 _ _ _ h ⟨e19_2, e19_7, e19_8, e19_9⟩
                    · have h := h.2 hc131
                      refine Go.condF (btF rfl hc131) ?_
                      refine Go.skip ?_
                      refine Go.inBlock ?_
                      exact hj34 _ _ _ h ⟨e19_2, e19_7, e19_8, e19_9⟩
        · have h := h.2 hc21
          refine Go.condF (btF rfl hc21) ?_
          refine Go.exit rfl ?_
          refine Go.seq ?_
          refine Go.region rfl ?_
          refine call_dst rfl (by decide) body7 (keelsonlaw23_awake_s _ _ h) rfl ?_
          rintro _ H138 ⟨y139, rfl, h⟩
          refine GoOps.q (v := .bool y139) rfl rfl (by decide) (q_assign rfl) ?_
          refine GoOps.nil ?_
          exact Go.ret ⟨.inl rfl, _, _, DOk.nil, (resOk1 Try.results5 rfl), ⟨_, rfl, h⟩⟩

/-- keelson.keelsonlaw23.WindowCuts -/
def keelsonlaw23_WindowCuts (p0 : Int) (p1 : Int) (p2 : Int) (H : PH) (Q : Bool → PH → Prop) : Prop :=
  mJoin (fun (s2 : Bool) (H4 : PH) =>
  mIf s2
  (keelsonlaw23_awake H4 fun y8 H7 =>
  Q y8 H7)
  (window_New_int p0 5 H4 fun y10 H9 =>
  mJoin (fun (s12 : Bool) (H14 : PH) =>
  mJoin (fun (s17 : Bool) (H19 : PH) =>
  mJoin (fun (s22 : Bool) (H24 : PH) =>
  mJoin (fun (s27 : Bool) (H29 : PH) =>
  mJoin (fun (s32 : Bool) (H34 : PH) =>
  mJoin (fun (s37 : Bool) (H39 : PH) =>
  mJoin (fun (s42 : Bool) (H44 : PH) =>
  mIf s42
  (Q false H44)
  (window_Window_int_Pop y10 H44 fun y48 y49 H47 =>
  keelsonalike_Round p2 1073741824 H47 fun y51 H50 =>
  window_Window_int_Reset y10 (IntKind.wrap .i64 (1 + y51)) H50 fun H52 =>
  window_Window_int_Len y10 H52 fun y54 H53 =>
  window_Window_int_Reset y10 0 H53 fun H55 =>
  mJoin (fun (s57 : Bool) (H59 : PH) =>
  mJoin (fun (s62 : Bool) (H64 : PH) =>
  mJoin (fun (s67 : Bool) (H69 : PH) =>
  mJoin (fun (s72 : Bool) (H74 : PH) =>
  mJoin (fun (s77 : Bool) (H79 : PH) =>
  mJoin (fun (s82 : Bool) (H84 : PH) =>
  Q s82 H84)
  fun j83 =>
  mIf s77
  (keelsonlaw23_awake H79 fun y87 H86 =>
  j83 y87 H86)
  (j83 false H79))
  fun j78 =>
  mIf s72
  (window_Window_int_Put y10 (IntKind.wrap .i64 ((IntKind.wrap .i64 (1 + y51)) - 1)) 1 H74 fun y89 H88 =>
  j78 (y89 == 9) H88)
  (j78 false H74))
  fun j73 =>
  mIf s67
  (window_Window_int_Put y10 (IntKind.wrap .i64 (1 + y51)) 1 H69 fun y91 H90 =>
  j73 (y91 == 0) H90)
  (j73 false H69))
  fun j68 =>
  mIf s62
  (window_Window_int_Next y10 H64 fun y93 H92 =>
  j68 (y93 == (IntKind.wrap .i64 (1 + y51))) H92)
  (j68 false H64))
  fun j63 =>
  mIf s57
  (j63 (y54 == 0) H59)
  (j63 false H59))
  fun j58 =>
  mIf y49
  (j58 (y48 == 7) H55)
  (j58 false H55)))
  fun j43 =>
  mIf s37
  (j43 true H39)
  (window_Window_int_Put y10 5 7 H39 fun y95 H94 =>
  j43 (y95 != 0) H94))
  fun j38 =>
  mIf s32
  (j38 true H34)
  (window_Window_int_Next y10 H34 fun y97 H96 =>
  j38 (y97 != 5) H96))
  fun j33 =>
  mIf s27
  (j33 true H29)
  (window_Window_int_Len y10 H29 fun y99 H98 =>
  j33 (y99 != 1) H98))
  fun j28 =>
  mIf s22
  (j28 true H24)
  (window_Window_int_Cut y10 H24 fun y101 H100 =>
  j28 y101 H100))
  fun j23 =>
  mIf s17
  (j23 true H19)
  (window_Window_int_Cut y10 H19 fun y103 H102 =>
  j23 (!y103) H102))
  fun j18 =>
  mIf s12
  (j18 true H14)
  (window_Window_int_Put y10 6 p1 H14 fun y105 H104 =>
  j18 (y105 != 0) H104))
  fun j13 =>
  mIf (Option.isNone y10)
  (j13 true H9)
  (window_Window_int_Put y10 5 p1 H9 fun y107 H106 =>
  j13 (y107 != 0) H106)))
  fun j3 =>
  mIf (decide (p0 < 2))
  (j3 true H)
  (j3 (decide (16 < p0)) H)

set_option maxRecDepth 20000 in
set_option maxHeartbeats 1000000 in
theorem keelsonlaw23_WindowCuts_s (p0 : Int) (p1 : Int) (p2 : Int) (H : PH) (Q : Bool → PH → Prop) (h : keelsonlaw23_WindowCuts p0 p1 p2 H Q) :
    CallsH Try.prog 6 #[.int .i64 p0, .int .i64 p1, .int .i64 p2] H (fun v H' => ∃ (r0 : Bool), v = .bool r0 ∧ Q r0 H') := by
  unfold keelsonlaw23_WindowCuts at h
  refine callsH_of_go Try.func6 rfl Try.ntmps6 (Nat.le_of_ble_eq_true rfl) ?_
  refine Go.seq ?_
  refine Go.region rfl ?_
  refine GoOps.q (v := .bool false) rfl rfl (by decide) (q_assign rfl) ?_
  refine GoOps.nil ?_
  refine Go.seq ?_
  refine Go.seq ?_
  refine Go.region rfl ?_
  refine GoOps.q (v := .int .i64 p0) rfl rfl (by decide) (q_move rfl) ?_
  refine GoOps.q (v := .bool (decide (p0 < 2))) rfl rfl (by decide) (q_lss rfl rfl) ?_
  refine GoOps.q (v := .bool (decide (p0 < 2))) rfl rfl (by decide) (q_move rfl) ?_
  refine join_ops 3 (fun ρ (s2 : Bool) => ρ 0 = .int .i64 p0 ∧ ρ 1 = .int .i64 p1 ∧ ρ 2 = .int .i64 p2 ∧ ρ 17 = .bool s2) h ?_ ?_ <;> clear h
  · intro s2 H4 ρ h hE
    obtain ⟨e5_0, e5_1, e5_2, e5_17⟩ := hE
    refine GoOps.nil ?_
    rcases bor s2 with hc6 | hc6
    · have h := h.1 hc6
      refine Go.condT (btT e5_17 hc6) ?_
      refine Go.seq ?_
      refine Go.region rfl ?_
      refine call_dst rfl (by decide) body7 (keelsonlaw23_awake_s _ _ h) rfl ?_
      rintro _ H7 ⟨y8, rfl, h⟩
      refine GoOps.q (v := .bool y8) rfl rfl (by decide) (q_assign rfl) ?_
      refine GoOps.nil ?_
      exact Go.ret ⟨.inl rfl, _, _, DOk.nil, (resOk1 Try.results6 rfl), ⟨_, rfl, h⟩⟩
    · have h := h.2 hc6
      refine Go.condF (btF e5_17 hc6) ?_
      refine Go.skip ?_
      refine Go.seq ?_
      refine Go.region rfl ?_
      refine GoOps.q (v := .int .i64 p0) rfl rfl (by decide) (q_move e5_0) ?_
      refine call_dst rfl (by decide) body8 (window_New_int_s _ _ _ _ h) rfl ?_
      rintro _ H9 ⟨y10, rfl, h⟩
      refine GoOps.q (v := .pointer y10) rfl rfl (by decide) (q_assign rfl) ?_
      refine GoOps.nil ?_
      refine Go.seq ?_
      refine Go.seq ?_
      refine Go.region rfl ?_
      refine GoOps.q (v := .pointer y10) rfl rfl (by decide) (q_move rfl) ?_
      refine GoOps.q (v := .bool (Option.isNone y10)) rfl rfl (by decide) (q_eqlPn Try.underlying24 rfl rfl) ?_
      refine GoOps.q (v := .bool (Option.isNone y10)) rfl rfl (by decide) (q_move rfl) ?_
      refine join_ops 5 (fun ρ (s12 : Bool) => ρ 1 = .int .i64 p1 ∧ ρ 2 = .int .i64 p2 ∧ ρ 7 = .pointer y10 ∧ ρ 28 = .bool s12) h ?_ ?_ <;> clear h
      · intro s12 H14 ρ h hE
        obtain ⟨e15_1, e15_2, e15_7, e15_28⟩ := hE
        refine GoOps.q (v := .bool s12) rfl rfl (by decide) (q_move e15_28) ?_
        refine join_ops 5 (fun ρ (s17 : Bool) => ρ 2 = .int .i64 p2 ∧ ρ 7 = .pointer y10 ∧ ρ 34 = .bool s17) h ?_ ?_ <;> clear h
        · intro s17 H19 ρ h hE
          obtain ⟨e20_2, e20_7, e20_34⟩ := hE
          refine GoOps.q (v := .bool s17) rfl rfl (by decide) (q_move e20_34) ?_
          refine join_ops 4 (fun ρ (s22 : Bool) => ρ 2 = .int .i64 p2 ∧ ρ 7 = .pointer y10 ∧ ρ 39 = .bool s22) h ?_ ?_ <;> clear h
          · intro s22 H24 ρ h hE
            obtain ⟨e25_2, e25_7, e25_39⟩ := hE
            refine GoOps.q (v := .bool s22) rfl rfl (by decide) (q_move e25_39) ?_
            refine join_ops 3 (fun ρ (s27 : Bool) => ρ 2 = .int .i64 p2 ∧ ρ 7 = .pointer y10 ∧ ρ 43 = .bool s27) h ?_ ?_ <;> clear h
            · intro s27 H29 ρ h hE
              obtain ⟨e30_2, e30_7, e30_43⟩ := hE
              refine GoOps.q (v := .bool s27) rfl rfl (by decide) (q_move e30_43) ?_
              refine join_ops 4 (fun ρ (s32 : Bool) => ρ 2 = .int .i64 p2 ∧ ρ 7 = .pointer y10 ∧ ρ 48 = .bool s32) h ?_ ?_ <;> clear h
              · intro s32 H34 ρ h hE
                obtain ⟨e35_2, e35_7, e35_48⟩ := hE
                refine GoOps.q (v := .bool s32) rfl rfl (by decide) (q_move e35_48) ?_
                refine join_ops 4 (fun ρ (s37 : Bool) => ρ 2 = .int .i64 p2 ∧ ρ 7 = .pointer y10 ∧ ρ 53 = .bool s37) h ?_ ?_ <;> clear h
                · intro s37 H39 ρ h hE
                  obtain ⟨e40_2, e40_7, e40_53⟩ := hE
                  refine GoOps.q (v := .bool s37) rfl rfl (by decide) (q_move e40_53) ?_
                  refine join_ops 4 (fun ρ (s42 : Bool) => ρ 2 = .int .i64 p2 ∧ ρ 7 = .pointer y10 ∧ ρ 58 = .bool s42) h ?_ ?_ <;> clear h
                  · intro s42 H44 ρ h hE
                    obtain ⟨e45_2, e45_7, e45_58⟩ := hE
                    refine GoOps.nil ?_
                    rcases bor s42 with hc46 | hc46
                    · have h := h.1 hc46
                      refine Go.condT (btT e45_58 hc46) ?_
                      refine Go.seq ?_
                      refine Go.region rfl ?_
                      refine GoOps.q (v := .bool false) rfl rfl (by decide) (q_assign rfl) ?_
                      refine GoOps.nil ?_
                      exact Go.ret ⟨.inl rfl, _, _, DOk.nil, (resOk1 Try.results6 rfl), ⟨_, rfl, h⟩⟩
                    · have h := h.2 hc46
                      refine Go.condF (btF e45_58 hc46) ?_
                      refine Go.skip ?_
                      refine Go.seq ?_
                      refine Go.region rfl ?_
                      refine GoOps.q (v := .pointer y10) rfl rfl (by decide) (q_move e45_7) ?_
                      refine call_dst rfl (by decide) body11 (window_Window_int_Pop_s _ _ _ h) rfl ?_
                      rintro _ H47 ⟨y48, y49, rfl, h⟩
                      refine GoOps.q (v := .tuple #[.int .i64 y48, .bool y49]) rfl rfl (by decide) (q_move rfl) ?_
                      refine GoOps.q (v := .int .i64 y48) rfl rfl (by decide) (q_extract rfl rfl) ?_
                      refine GoOps.q (v := .bool y49) rfl rfl (by decide) (q_extract rfl rfl) ?_
                      refine GoOps.q (v := .int .i64 y48) rfl rfl (by decide) (q_assign rfl) ?_
                      refine GoOps.q (v := .bool y49) rfl rfl (by decide) (q_assign rfl) ?_
                      refine GoOps.nil ?_
                      refine Go.seq ?_
                      refine Go.region rfl ?_
                      refine GoOps.q (v := .int .i64 p2) rfl rfl (by decide) (q_move e45_2) ?_
                      refine call_dst rfl (by decide) body9 (keelsonalike_Round_s _ _ _ _ h) rfl ?_
                      rintro _ H50 ⟨y51, rfl, h⟩
                      refine GoOps.q (v := .int .i64 (IntKind.wrap .i64 (1 + y51))) rfl rfl (by decide) (q_add rfl rfl) ?_
                      refine GoOps.q (v := .int .i64 (IntKind.wrap .i64 (1 + y51))) rfl rfl (by decide) (q_assign rfl) ?_
                      refine GoOps.nil ?_
                      refine Go.seq ?_
                      refine Go.region rfl ?_
                      refine GoOps.q (v := .pointer y10) rfl rfl (by decide) (q_move e45_7) ?_
                      refine GoOps.q (v := .int .i64 (IntKind.wrap .i64 (1 + y51))) rfl rfl (by decide) (q_move rfl) ?_
                      refine call_dst rfl (by decide) body23 (window_Window_int_Reset_s _ _ _ _ h) rfl ?_
                      rintro _ H52 ⟨rfl, h⟩
                      refine GoOps.nil ?_
                      refine Go.seq ?_
                      refine Go.region rfl ?_
                      refine GoOps.q (v := .pointer y10) rfl rfl (by decide) (q_move e45_7) ?_
                      refine call_dst rfl (by decide) body14 (window_Window_int_Len_s _ _ _ h) rfl ?_
                      rintro _ H53 ⟨y54, rfl, h⟩
                      refine GoOps.q (v := .int .i64 y54) rfl rfl (by decide) (q_assign rfl) ?_
                      refine GoOps.nil ?_
                      refine Go.seq ?_
                      refine Go.region rfl ?_
                      refine GoOps.q (v := .pointer y10) rfl rfl (by decide) (q_move e45_7) ?_
                      refine call_dst rfl (by decide) body23 (window_Window_int_Reset_s _ _ _ _ h) rfl ?_
                      rintro _ H55 ⟨rfl, h⟩
                      refine GoOps.nil ?_
                      refine Go.seq ?_
                      refine Go.region rfl ?_
                      refine GoOps.q (v := .bool y49) rfl rfl (by decide) (q_move rfl) ?_
                      refine GoOps.q (v := .bool y49) rfl rfl (by decide) (q_move rfl) ?_
                      refine join_ops 3 (fun ρ (s57 : Bool) => ρ 7 = .pointer y10 ∧ ρ 10 = .int .i64 (IntKind.wrap .i64 (1 + y51)) ∧ ρ 11 = .int .i64 y54 ∧ ρ 78 = .bool s57) h ?_ ?_ <;> clear h
                      · intro s57 H59 ρ h hE
                        obtain ⟨e60_7, e60_10, e60_11, e60_78⟩ := hE
                        refine GoOps.q (v := .bool s57) rfl rfl (by decide) (q_move e60_78) ?_
                        refine join_ops 3 (fun ρ (s62 : Bool) => ρ 7 = .pointer y10 ∧ ρ 10 = .int .i64 (IntKind.wrap .i64 (1 + y51)) ∧ ρ 82 = .bool s62) h ?_ ?_ <;> clear h
                        · intro s62 H64 ρ h hE
                          obtain ⟨e65_7, e65_10, e65_82⟩ := hE
                          refine GoOps.q (v := .bool s62) rfl rfl (by decide) (q_move e65_82) ?_
                          refine join_ops 5 (fun ρ (s67 : Bool) => ρ 7 = .pointer y10 ∧ ρ 10 = .int .i64 (IntKind.wrap .i64 (1 + y51)) ∧ ρ 88 = .bool s67) h ?_ ?_ <;> clear h
                          · intro s67 H69 ρ h hE
                            obtain ⟨e70_7, e70_10, e70_88⟩ := hE
                            refine GoOps.q (v := .bool s67) rfl rfl (by decide) (q_move e70_88) ?_
                            refine join_ops 5 (fun ρ (s72 : Bool) => ρ 7 = .pointer y10 ∧ ρ 10 = .int .i64 (IntKind.wrap .i64 (1 + y51)) ∧ ρ 94 = .bool s72) h ?_ ?_ <;> clear h
                            · intro s72 H74 ρ h hE
                              obtain ⟨e75_7, e75_10, e75_94⟩ := hE
                              refine GoOps.q (v := .bool s72) rfl rfl (by decide) (q_move e75_94) ?_
                              refine join_ops 6 (fun ρ (s77 : Bool) => ρ 101 = .bool s77) h ?_ ?_ <;> clear h
                              · intro s77 H79 ρ h hE
                                have e80_101 := hE
                                refine GoOps.q (v := .bool s77) rfl rfl (by decide) (q_move e80_101) ?_
                                refine join_ops 2 (fun ρ (s82 : Bool) => ρ 104 = .bool s82) h ?_ ?_ <;> clear h
                                · intro s82 H84 ρ h hE
                                  have e85_104 := hE
                                  refine GoOps.q (v := .bool s82) rfl rfl (by decide) (q_assign e85_104) ?_
                                  refine GoOps.nil ?_
                                  exact Go.ret ⟨.inl rfl, _, _, DOk.nil, (resOk1 Try.results6 rfl), ⟨_, rfl, h⟩⟩
                                · intro j83 hj83 h
                                  rcases bor s77 with hc81 | hc81
                                  · have h := h.1 hc81
                                    refine call_dst (want_yes rfl rfl rfl hc81) (by decide) body7 (keelsonlaw23_awake_s _ _ h) rfl ?_
                                    rintro _ H86 ⟨y87, rfl, h⟩
                                    refine GoOps.q (v := .bool y87) rfl rfl (by decide) (q_pickT (btT rfl hc81) rfl) ?_
                                    exact hj83 y87 _ _ h (by exact rfl)
                                  · have h := h.2 hc81
                                    refine no_dst (want_no rfl rfl rfl hc81) rfl (by decide) ?_
                                    refine GoOps.q (v := .bool false) rfl rfl (by decide) (q_pickF (btF rfl hc81) rfl) ?_
                                    exact hj83 false _ _ h (by exact rfl)
                              · intro j78 hj78 h
                                rcases bor s72 with hc76 | hc76
                                · have h := h.1 hc76
                                  refine GoOps.q (v := .pointer y10) (want_yes rfl rfl rfl hc76) rfl (by decide) (q_move e75_7) ?_
                                  refine GoOps.q (v := .int .i64 (IntKind.wrap .i64 (1 + y51))) (want_yes rfl rfl rfl hc76) rfl (by decide) (q_move e75_10) ?_
                                  refine GoOps.q (v := .int .i64 (IntKind.wrap .i64 ((IntKind.wrap .i64 (1 + y51)) - 1))) (want_yes rfl rfl rfl hc76) rfl (by decide) (q_sub rfl rfl) ?_
                                  refine call_dst (want_yes rfl rfl rfl hc76) (by decide) body10 (window_Window_int_Put_s _ _ _ _ _ h) rfl ?_
                                  rintro _ H88 ⟨y89, rfl, h⟩
                                  refine GoOps.q (v := .bool (y89 == 9)) (want_yes rfl rfl rfl hc76) rfl (by decide) (q_eql rfl rfl) ?_
                                  refine GoOps.q (v := .bool (y89 == 9)) rfl rfl (by decide) (q_pickT (btT rfl hc76) rfl) ?_
                                  exact hj78 (y89 == 9) _ _ h (by exact rfl)
                                · have h := h.2 hc76
                                  refine no_dst (want_no rfl rfl rfl hc76) rfl (by decide) ?_
                                  refine no_dst (want_no rfl rfl rfl hc76) rfl (by decide) ?_
                                  refine no_dst (want_no rfl rfl rfl hc76) rfl (by decide) ?_
                                  refine no_dst (want_no rfl rfl rfl hc76) rfl (by decide) ?_
                                  refine no_dst (want_no rfl rfl rfl hc76) rfl (by decide) ?_
                                  refine GoOps.q (v := .bool false) rfl rfl (by decide) (q_pickF (btF rfl hc76) rfl) ?_
                                  exact hj78 false _ _ h (by exact rfl)
                            · intro j73 hj73 h
                              rcases bor s67 with hc71 | hc71
                              · have h := h.1 hc71
                                refine GoOps.q (v := .pointer y10) (want_yes rfl rfl rfl hc71) rfl (by decide) (q_move e70_7) ?_
                                refine GoOps.q (v := .int .i64 (IntKind.wrap .i64 (1 + y51))) (want_yes rfl rfl rfl hc71) rfl (by decide) (q_move e70_10) ?_
                                refine call_dst (want_yes rfl rfl rfl hc71) (by decide) body10 (window_Window_int_Put_s _ _ _ _ _ h) rfl ?_
                                rintro _ H90 ⟨y91, rfl, h⟩
                                refine GoOps.q (v := .bool (y91 == 0)) (want_yes rfl rfl rfl hc71) rfl (by decide) (q_eql rfl rfl) ?_
                                refine GoOps.q (v := .bool (y91 == 0)) rfl rfl (by decide) (q_pickT (btT rfl hc71) rfl) ?_
                                exact hj73 (y91 == 0) _ _ h (by exact ⟨e70_7, e70_10, rfl⟩)
                              · have h := h.2 hc71
                                refine no_dst (want_no rfl rfl rfl hc71) rfl (by decide) ?_
                                refine no_dst (want_no rfl rfl rfl hc71) rfl (by decide) ?_
                                refine no_dst (want_no rfl rfl rfl hc71) rfl (by decide) ?_
                                refine no_dst (want_no rfl rfl rfl hc71) rfl (by decide) ?_
                                refine GoOps.q (v := .bool false) rfl rfl (by decide) (q_pickF (btF rfl hc71) rfl) ?_
                                exact hj73 false _ _ h (by exact ⟨e70_7, e70_10, rfl⟩)
                          · intro j68 hj68 h
                            rcases bor s62 with hc66 | hc66
                            · have h := h.1 hc66
                              refine GoOps.q (v := .pointer y10) (want_yes rfl rfl rfl hc66) rfl (by decide) (q_move e65_7) ?_
                              refine call_dst (want_yes rfl rfl rfl hc66) (by decide) body12 (window_Window_int_Next_s _ _ _ h) rfl ?_
                              rintro _ H92 ⟨y93, rfl, h⟩
                              refine GoOps.q (v := .int .i64 (IntKind.wrap .i64 (1 + y51))) (want_yes rfl rfl rfl hc66) rfl (by decide) (q_move e65_10) ?_
                              refine GoOps.q (v := .bool (y93 == (IntKind.wrap .i64 (1 + y51)))) (want_yes rfl rfl rfl hc66) rfl (by decide) (q_eql rfl rfl) ?_
                              refine GoOps.q (v := .bool (y93 == (IntKind.wrap .i64 (1 + y51)))) rfl rfl (by decide) (q_pickT (btT rfl hc66) rfl) ?_
                              exact hj68 (y93 == (IntKind.wrap .i64 (1 + y51))) _ _ h (by exact ⟨e65_7, e65_10, rfl⟩)
                            · have h := h.2 hc66
                              refine no_dst (want_no rfl rfl rfl hc66) rfl (by decide) ?_
                              refine no_dst (want_no rfl rfl rfl hc66) rfl (by decide) ?_
                              refine no_dst (want_no rfl rfl rfl hc66) rfl (by decide) ?_
                              refine no_dst (want_no rfl rfl rfl hc66) rfl (by decide) ?_
                              refine GoOps.q (v := .bool false) rfl rfl (by decide) (q_pickF (btF rfl hc66) rfl) ?_
                              exact hj68 false _ _ h (by exact ⟨e65_7, e65_10, rfl⟩)
                        · intro j63 hj63 h
                          rcases bor s57 with hc61 | hc61
                          · have h := h.1 hc61
                            refine GoOps.q (v := .int .i64 y54) (want_yes rfl rfl rfl hc61) rfl (by decide) (q_move e60_11) ?_
                            refine GoOps.q (v := .bool (y54 == 0)) (want_yes rfl rfl rfl hc61) rfl (by decide) (q_eql rfl rfl) ?_
                            refine GoOps.q (v := .bool (y54 == 0)) rfl rfl (by decide) (q_pickT (btT rfl hc61) rfl) ?_
                            exact hj63 (y54 == 0) _ _ h (by exact ⟨e60_7, e60_10, rfl⟩)
                          · have h := h.2 hc61
                            refine no_dst (want_no rfl rfl rfl hc61) rfl (by decide) ?_
                            refine no_dst (want_no rfl rfl rfl hc61) rfl (by decide) ?_
                            refine GoOps.q (v := .bool false) rfl rfl (by decide) (q_pickF (btF rfl hc61) rfl) ?_
                            exact hj63 false _ _ h (by exact ⟨e60_7, e60_10, rfl⟩)
                      · intro j58 hj58 h
                        rcases bor y49 with hc56 | hc56
                        · have h := h.1 hc56
                          refine GoOps.q (v := .int .i64 y48) (want_yes rfl rfl rfl hc56) rfl (by decide) (q_move rfl) ?_
                          refine GoOps.q (v := .bool (y48 == 7)) (want_yes rfl rfl rfl hc56) rfl (by decide) (q_eql rfl rfl) ?_
                          refine GoOps.q (v := .bool (y48 == 7)) rfl rfl (by decide) (q_pickT (btT rfl hc56) rfl) ?_
                          exact hj58 (y48 == 7) _ _ h (by exact ⟨e45_7, rfl, rfl, rfl⟩)
                        · have h := h.2 hc56
                          refine no_dst (want_no rfl rfl rfl hc56) rfl (by decide) ?_
                          refine no_dst (want_no rfl rfl rfl hc56) rfl (by decide) ?_
                          refine GoOps.q (v := .bool false) rfl rfl (by decide) (q_pickF (btF rfl hc56) rfl) ?_
                          exact hj58 false _ _ h (by exact ⟨e45_7, rfl, rfl, rfl⟩)
                  · intro j43 hj43 h
                    rcases bor s37 with hc41 | hc41
                    · have h := h.1 hc41
                      refine no_dst (want_no rfl rfl rfl hc41) rfl (by decide) ?_
                      refine no_dst (want_no rfl rfl rfl hc41) rfl (by decide) ?_
                      refine no_dst (want_no rfl rfl rfl hc41) rfl (by decide) ?_
                      refine GoOps.q (v := .bool true) rfl rfl (by decide) (q_pickT (btT rfl hc41) rfl) ?_
                      exact hj43 true _ _ h (by exact ⟨e40_2, e40_7, rfl⟩)
                    · have h := h.2 hc41
                      refine GoOps.q (v := .pointer y10) (want_yes rfl rfl rfl hc41) rfl (by decide) (q_move e40_7) ?_
                      refine call_dst (want_yes rfl rfl rfl hc41) (by decide) body10 (window_Window_int_Put_s _ _ _ _ _ h) rfl ?_
                      rintro _ H94 ⟨y95, rfl, h⟩
                      refine GoOps.q (v := .bool (y95 != 0)) (want_yes rfl rfl rfl hc41) rfl (by decide) (q_neq rfl rfl) ?_
                      refine GoOps.q (v := .bool (y95 != 0)) rfl rfl (by decide) (q_pickF (btF rfl hc41) rfl) ?_
                      exact hj43 (y95 != 0) _ _ h (by exact ⟨e40_2, e40_7, rfl⟩)
                · intro j38 hj38 h
                  rcases bor s32 with hc36 | hc36
                  · have h := h.1 hc36
                    refine no_dst (want_no rfl rfl rfl hc36) rfl (by decide) ?_
                    refine no_dst (want_no rfl rfl rfl hc36) rfl (by decide) ?_
                    refine no_dst (want_no rfl rfl rfl hc36) rfl (by decide) ?_
                    refine GoOps.q (v := .bool true) rfl rfl (by decide) (q_pickT (btT rfl hc36) rfl) ?_
                    exact hj38 true _ _ h (by exact ⟨e35_2, e35_7, rfl⟩)
                  · have h := h.2 hc36
                    refine GoOps.q (v := .pointer y10) (want_yes rfl rfl rfl hc36) rfl (by decide) (q_move e35_7) ?_
                    refine call_dst (want_yes rfl rfl rfl hc36) (by decide) body12 (window_Window_int_Next_s _ _ _ h) rfl ?_
                    rintro _ H96 ⟨y97, rfl, h⟩
                    refine GoOps.q (v := .bool (y97 != 5)) (want_yes rfl rfl rfl hc36) rfl (by decide) (q_neq rfl rfl) ?_
                    refine GoOps.q (v := .bool (y97 != 5)) rfl rfl (by decide) (q_pickF (btF rfl hc36) rfl) ?_
                    exact hj38 (y97 != 5) _ _ h (by exact ⟨e35_2, e35_7, rfl⟩)
              · intro j33 hj33 h
                rcases bor s27 with hc31 | hc31
                · have h := h.1 hc31
                  refine no_dst (want_no rfl rfl rfl hc31) rfl (by decide) ?_
                  refine no_dst (want_no rfl rfl rfl hc31) rfl (by decide) ?_
                  refine no_dst (want_no rfl rfl rfl hc31) rfl (by decide) ?_
                  refine GoOps.q (v := .bool true) rfl rfl (by decide) (q_pickT (btT rfl hc31) rfl) ?_
                  exact hj33 true _ _ h (by exact ⟨e30_2, e30_7, rfl⟩)
                · have h := h.2 hc31
                  refine GoOps.q (v := .pointer y10) (want_yes rfl rfl rfl hc31) rfl (by decide) (q_move e30_7) ?_
                  refine call_dst (want_yes rfl rfl rfl hc31) (by decide) body14 (window_Window_int_Len_s _ _ _ h) rfl ?_
                  rintro _ H98 ⟨y99, rfl, h⟩
                  refine GoOps.q (v := .bool (y99 != 1)) (want_yes rfl rfl rfl hc31) rfl (by decide) (q_neq rfl rfl) ?_
                  refine GoOps.q (v := .bool (y99 != 1)) rfl rfl (by decide) (q_pickF (btF rfl hc31) rfl) ?_
                  exact hj33 (y99 != 1) _ _ h (by exact ⟨e30_2, e30_7, rfl⟩)
            · intro j28 hj28 h
              rcases bor s22 with hc26 | hc26
              · have h := h.1 hc26
                refine no_dst (want_no rfl rfl rfl hc26) rfl (by decide) ?_
                refine no_dst (want_no rfl rfl rfl hc26) rfl (by decide) ?_
                refine GoOps.q (v := .bool true) rfl rfl (by decide) (q_pickT (btT rfl hc26) rfl) ?_
                exact hj28 true _ _ h (by exact ⟨e25_2, e25_7, rfl⟩)
              · have h := h.2 hc26
                refine GoOps.q (v := .pointer y10) (want_yes rfl rfl rfl hc26) rfl (by decide) (q_move e25_7) ?_
                refine call_dst (want_yes rfl rfl rfl hc26) (by decide) body21 (window_Window_int_Cut_s _ _ _ h) rfl ?_
                rintro _ H100 ⟨y101, rfl, h⟩
                refine GoOps.q (v := .bool y101) rfl rfl (by decide) (q_pickF (btF rfl hc26) rfl) ?_
                exact hj28 y101 _ _ h (by exact ⟨e25_2, e25_7, rfl⟩)
          · intro j23 hj23 h
            rcases bor s17 with hc21 | hc21
            · have h := h.1 hc21
              refine no_dst (want_no rfl rfl rfl hc21) rfl (by decide) ?_
              refine no_dst (want_no rfl rfl rfl hc21) rfl (by decide) ?_
              refine no_dst (want_no rfl rfl rfl hc21) rfl (by decide) ?_
              refine GoOps.q (v := .bool true) rfl rfl (by decide) (q_pickT (btT rfl hc21) rfl) ?_
              exact hj23 true _ _ h (by exact ⟨e20_2, e20_7, rfl⟩)
            · have h := h.2 hc21
              refine GoOps.q (v := .pointer y10) (want_yes rfl rfl rfl hc21) rfl (by decide) (q_move e20_7) ?_
              refine call_dst (want_yes rfl rfl rfl hc21) (by decide) body21 (window_Window_int_Cut_s _ _ _ h) rfl ?_
              rintro _ H102 ⟨y103, rfl, h⟩
              refine GoOps.q (v := .bool (!y103)) (want_yes rfl rfl rfl hc21) rfl (by decide) (q_not rfl) ?_
              refine GoOps.q (v := .bool (!y103)) rfl rfl (by decide) (q_pickF (btF rfl hc21) rfl) ?_
              exact hj23 (!y103) _ _ h (by exact ⟨e20_2, e20_7, rfl⟩)
        · intro j18 hj18 h
          rcases bor s12 with hc16 | hc16
          · have h := h.1 hc16
            refine no_dst (want_no rfl rfl rfl hc16) rfl (by decide) ?_
            refine no_dst (want_no rfl rfl rfl hc16) rfl (by decide) ?_
            refine no_dst (want_no rfl rfl rfl hc16) rfl (by decide) ?_
            refine no_dst (want_no rfl rfl rfl hc16) rfl (by decide) ?_
            refine GoOps.q (v := .bool true) rfl rfl (by decide) (q_pickT (btT rfl hc16) rfl) ?_
            exact hj18 true _ _ h (by exact ⟨e15_2, e15_7, rfl⟩)
          · have h := h.2 hc16
            refine GoOps.q (v := .pointer y10) (want_yes rfl rfl rfl hc16) rfl (by decide) (q_move e15_7) ?_
            refine GoOps.q (v := .int .i64 p1) (want_yes rfl rfl rfl hc16) rfl (by decide) (q_move e15_1) ?_
            refine call_dst (want_yes rfl rfl rfl hc16) (by decide) body10 (window_Window_int_Put_s _ _ _ _ _ h) rfl ?_
            rintro _ H104 ⟨y105, rfl, h⟩
            refine GoOps.q (v := .bool (y105 != 0)) (want_yes rfl rfl rfl hc16) rfl (by decide) (q_neq rfl rfl) ?_
            refine GoOps.q (v := .bool (y105 != 0)) rfl rfl (by decide) (q_pickF (btF rfl hc16) rfl) ?_
            exact hj18 (y105 != 0) _ _ h (by exact ⟨e15_2, e15_7, rfl⟩)
      · intro j13 hj13 h
        rcases bor (Option.isNone y10) with hc11 | hc11
        · have h := h.1 hc11
          refine no_dst (want_no rfl rfl rfl hc11) rfl (by decide) ?_
          refine no_dst (want_no rfl rfl rfl hc11) rfl (by decide) ?_
          refine no_dst (want_no rfl rfl rfl hc11) rfl (by decide) ?_
          refine no_dst (want_no rfl rfl rfl hc11) rfl (by decide) ?_
          refine GoOps.q (v := .bool true) rfl rfl (by decide) (q_pickT (btT rfl hc11) rfl) ?_
          exact hj13 true _ _ h (by exact ⟨e5_1, e5_2, rfl, rfl⟩)
        · have h := h.2 hc11
          refine GoOps.q (v := .pointer y10) (want_yes rfl rfl rfl hc11) rfl (by decide) (q_move rfl) ?_
          refine GoOps.q (v := .int .i64 p1) (want_yes rfl rfl rfl hc11) rfl (by decide) (q_move e5_1) ?_
          refine call_dst (want_yes rfl rfl rfl hc11) (by decide) body10 (window_Window_int_Put_s _ _ _ _ _ h) rfl ?_
          rintro _ H106 ⟨y107, rfl, h⟩
          refine GoOps.q (v := .bool (y107 != 0)) (want_yes rfl rfl rfl hc11) rfl (by decide) (q_neq rfl rfl) ?_
          refine GoOps.q (v := .bool (y107 != 0)) rfl rfl (by decide) (q_pickF (btF rfl hc11) rfl) ?_
          exact hj13 (y107 != 0) _ _ h (by exact ⟨e5_1, e5_2, rfl, rfl⟩)
  · intro j3 hj3 h
    rcases bor (decide (p0 < 2)) with hc1 | hc1
    · have h := h.1 hc1
      refine no_dst (want_no rfl rfl rfl hc1) rfl (by decide) ?_
      refine no_dst (want_no rfl rfl rfl hc1) rfl (by decide) ?_
      refine GoOps.q (v := .bool true) rfl rfl (by decide) (q_pickT (btT rfl hc1) rfl) ?_
      exact hj3 true _ _ h (by exact ⟨rfl, rfl, rfl, rfl⟩)
    · have h := h.2 hc1
      refine GoOps.q (v := .int .i64 p0) (want_yes rfl rfl rfl hc1) rfl (by decide) (q_move rfl) ?_
      refine GoOps.q (v := .bool (decide (16 < p0))) (want_yes rfl rfl rfl hc1) rfl (by decide) (q_gtr rfl rfl) ?_
      refine GoOps.q (v := .bool (decide (16 < p0))) rfl rfl (by decide) (q_pickF (btF rfl hc1) rfl) ?_
      exact hj3 (decide (16 < p0)) _ _ h (by exact ⟨rfl, rfl, rfl, rfl⟩)


end Go.Proofs.Ytegnpplffhkjhaa

import Derived.Test.YtnmanfkohkebfaaProg
import Derived.Test.YtnmanfkohkebfaaKxR
import Derived.KernelRfl
set_option linter.unusedVariables false
set_option linter.unusedSimpArgs false
namespace Go.Proofs.Ytnmanfkohkebfaa
open Go Go.Kx Go.Proofs
theorem slice22 : SliceOf Try.prog 22 23 1 := ⟨Try.underlying22, by kernel_rfl⟩
theorem scalar23 : Scalar Try.prog 23 := ⟨_, Try.underlying23, trivial⟩
theorem slice23 : SliceOf Try.prog 23 5 1 := ⟨Try.underlying23, by kernel_rfl⟩
theorem bytes5 : BytesOf Try.prog 5 1 := by unfold BytesOf; kernel_rfl
theorem zero5 : ZeroOf Try.prog 5 (.int .u8 0) := by unfold ZeroOf; kernel_rfl
theorem body11 : Body Try.prog 11 := body_of Try.func11 rfl rfl
theorem scalar5 : Scalar Try.prog 5 := ⟨_, Try.underlying5, trivial⟩
theorem body16 : Body Try.prog 16 := body_of Try.func16 rfl rfl
theorem zero23 : ZeroOf Try.prog 23 (.slice none 0 0) := by unfold ZeroOf; kernel_rfl
theorem body12 : Body Try.prog 12 := body_of Try.func12 rfl rfl
theorem body9 : Body Try.prog 9 := body_of Try.func9 rfl rfl
theorem body17 : Body Try.prog 17 := body_of Try.func17 rfl rfl
theorem body13 : Body Try.prog 13 := body_of Try.func13 rfl rfl
theorem body8 : Body Try.prog 8 := body_of Try.func8 rfl rfl
theorem body10 : Body Try.prog 10 := body_of Try.func10 rfl rfl
theorem body7 : Body Try.prog 7 := body_of Try.func7 rfl rfl
theorem slice31 : SliceOf Try.prog 31 3 1 := ⟨Try.underlying31, by kernel_rfl⟩
theorem scalar3 : Scalar Try.prog 3 := ⟨_, Try.underlying3, trivial⟩
theorem bytes23 : BytesOf Try.prog 23 24 := by unfold BytesOf; kernel_rfl
theorem body14 : Body Try.prog 14 := body_of Try.func14 rfl rfl
theorem mixed : Try.prog.follows .mixedOrders = true := by kernel_rfl
theorem size5 : (Try.prog.info? 5).map (·.size) = some 1 := by kernel_rfl
theorem body18 : Body Try.prog 18 := body_of Try.func18 rfl rfl
theorem body15 : Body Try.prog 15 := body_of Try.func15 rfl rfl

/-- keelson.keelsonlaw2.joined -/
def keelsonlaw2_joined (p0 : Sl) (H : PH) (Q : Sl → PH → Prop) : Prop :=
  mLoop (fun (s1 : Sl × Int) (H4 : PH) (again2 : (Sl × Int) → PH → Prop) =>
  mIf (decide (s1.2 < (p0.len : Int)))
  (mIdx p0 1 s1.2 fun a6 =>
  mLd Sl.v H4 a6 fun x8 =>
  mApp H4 5 1 1 [.int .u8 0] s1.1 x8 fun r10 H11 =>
  again2 (r10, IntKind.wrap .i64 (s1.2 + 1)) H11)
  (Q s1.1 H4))
  (Sl.nil, 0) H

set_option maxRecDepth 20000 in
set_option maxHeartbeats 1000000 in
theorem keelsonlaw2_joined_s (p0 : Sl) (H : PH) (Q : Sl → PH → Prop) (h : keelsonlaw2_joined p0 H Q) :
    CallsH Try.prog 11 #[Sl.v p0] H (fun v H' => ∃ (r0 : Sl), v = Sl.v r0 ∧ Q r0 H') := by
  unfold keelsonlaw2_joined at h
  refine callsH_of_go Try.func11 rfl Try.ntmps11 (Nat.le_of_ble_eq_true rfl) ?_
  refine Go.seq ?_
  refine Go.region rfl ?_
  refine GoOps.q rfl rfl (by decide) (q_assign rfl) ?_
  refine GoOps.nil ?_
  refine Go.seq ?_
  refine Go.region rfl ?_
  refine GoOps.q rfl rfl (by decide) (q_assign rfl) ?_
  refine GoOps.nil ?_
  refine Go.seq ?_
  refine Go.seq ?_
  refine Go.region rfl ?_
  refine GoOps.q rfl rfl (by decide) (q_assign rfl) ?_
  refine GoOps.nil ?_
  refine Go.block ?_
  refine loop_go (fun ρ (s1 : Sl × Int) => ρ 0 = Sl.v p0 ∧ ρ 3 = Sl.v s1.1 ∧ ρ 4 = .int .i64 s1.2) h ⟨rfl, rfl, rfl⟩ ?_
  clear h
  intro ρ s1 H4 again2 hE h hagain2
  obtain ⟨e3_0, e3_3, e3_4⟩ := hE
  refine Go.seq ?_
  refine Go.seq ?_
  refine Go.region rfl ?_
  refine GoOps.q rfl rfl (by decide) (q_move e3_4) ?_
  refine GoOps.q rfl rfl (by decide) (q_move e3_0) ?_
  refine GoOps.q rfl rfl (by decide) (q_len Try.underlying22 rfl (ls1 rfl)) ?_
  refine GoOps.q rfl rfl (by decide) (q_lss rfl rfl) ?_
  refine GoOps.nil ?_
  rcases bor (decide (s1.2 < (p0.len : Int))) with hc5 | hc5
  · have h := h.1 hc5
    refine Go.condT (btT rfl hc5) ?_
    refine Go.skip ?_
    refine Go.seq ?_
    refine Go.block ?_
    refine Go.region rfl ?_
    refine GoOps.q rfl rfl (by decide) (q_move e3_3) ?_
    refine GoOps.q rfl rfl (by decide) (q_move e3_0) ?_
    refine GoOps.q rfl rfl (by decide) (q_move e3_4) ?_
    obtain ⟨a6, ha7, h⟩ := h
    refine GoOps.q rfl rfl (by decide) (q_idx slice22 ha7 rfl rfl) ?_
    obtain ⟨x8, hx9, h⟩ := h
    refine GoOps.q rfl rfl (by decide) (q_load scalar23 rfl hx9) ?_
    refine op_dst rfl rfl (by decide) (do_append (zs := [.int .u8 0]) slice23 bytes5 (by decide) zero5 rfl rfl (by decide) rfl rfl Try.underlying23 rfl h fun r10 H11 h => ?_) 
    refine GoOps.q rfl rfl (by decide) (q_assign rfl) ?_
    refine GoOps.nil ?_
    refine Go.inBlock ?_
    refine Go.region rfl ?_
    refine GoOps.q rfl rfl (by decide) (q_move e3_4) ?_
    refine GoOps.q rfl rfl (by decide) (q_add rfl rfl) ?_
    refine GoOps.q rfl rfl (by decide) (q_assign rfl) ?_
    refine GoOps.nil ?_
    exact hagain2 _ _ _ h ⟨e3_0, rfl, rfl⟩
  · have h := h.2 hc5
    refine Go.condF (btF rfl hc5) ?_
    refine Go.exit rfl ?_
    refine Go.seq ?_
    refine Go.region rfl ?_
    refine GoOps.q rfl rfl (by decide) (q_move e3_3) ?_
    refine GoOps.q rfl rfl (by decide) (q_assign rfl) ?_
    refine GoOps.nil ?_
    exact Go.ret ⟨.inl rfl, _, _, DOk.nil, (resOk1 Try.results11 rfl), ⟨_, rfl, h⟩⟩

/-- keelson.keelsonlaw2.few -/
def keelsonlaw2_few (p0 : Sl) (H : PH) (Q : Bool → PH → Prop) : Prop :=
  mJoin (fun (s2 : Bool) (H4 : PH) =>
  Q s2 H4)
  fun j3 =>
  mIf (decide ((p0.len : Int) ≤ 20))
  (keelsonlaw2_joined p0 H fun y7 H6 =>
  j3 (decide ((y7.len : Int) ≤ 2000)) H6)
  (j3 false H)

set_option maxRecDepth 20000 in
set_option maxHeartbeats 1000000 in
theorem keelsonlaw2_few_s (p0 : Sl) (H : PH) (Q : Bool → PH → Prop) (h : keelsonlaw2_few p0 H Q) :
    CallsH Try.prog 7 #[Sl.v p0] H (fun v H' => ∃ (r0 : Bool), v = .bool r0 ∧ Q r0 H') := by
  unfold keelsonlaw2_few at h
  refine callsH_of_go Try.func7 rfl Try.ntmps7 (Nat.le_of_ble_eq_true rfl) ?_
  refine Go.seq ?_
  refine Go.region rfl ?_
  refine GoOps.q rfl rfl (by decide) (q_assign rfl) ?_
  refine GoOps.nil ?_
  refine Go.seq ?_
  refine Go.region rfl ?_
  refine GoOps.q rfl rfl (by decide) (q_move rfl) ?_
  refine GoOps.q rfl rfl (by decide) (q_len Try.underlying22 rfl (ls1 rfl)) ?_
  refine GoOps.q rfl rfl (by decide) (q_leq rfl rfl) ?_
  refine GoOps.q rfl rfl (by decide) (q_move rfl) ?_
  refine join_ops 5 (fun ρ (s2 : Bool) => ρ 11 = .bool s2) h ?_ ?_ <;> clear h
  · intro s2 H4 ρ h hE
    have e5_11 := hE
    refine GoOps.q rfl rfl (by decide) (q_assign e5_11) ?_
    refine GoOps.nil ?_
    exact Go.ret ⟨.inl rfl, _, _, DOk.nil, (resOk1 Try.results7 rfl), ⟨_, rfl, h⟩⟩
  · intro j3 hj3 h
    rcases bor (decide ((p0.len : Int) ≤ 20)) with hc1 | hc1
    · have h := h.1 hc1
      refine GoOps.q (want_yes rfl rfl rfl hc1) rfl (by decide) (q_move rfl) ?_
      refine call_dst (want_yes rfl rfl rfl hc1) (by decide) body11 (keelsonlaw2_joined_s _ _ _ h) rfl ?_
      rintro _ H6 ⟨y7, rfl, h⟩
      refine GoOps.q (want_yes rfl rfl rfl hc1) rfl (by decide) (q_len Try.underlying23 rfl (ls1 rfl)) ?_
      refine GoOps.q (want_yes rfl rfl rfl hc1) rfl (by decide) (q_leq rfl rfl) ?_
      refine GoOps.q rfl rfl (by decide) (q_pickT (btT rfl hc1) rfl) ?_
      exact hj3 _ _ _ h rfl
    · have h := h.2 hc1
      refine no_dst (want_no rfl rfl rfl hc1) rfl (by decide) ?_
      refine no_dst (want_no rfl rfl rfl hc1) rfl (by decide) ?_
      refine no_dst (want_no rfl rfl rfl hc1) rfl (by decide) ?_
      refine no_dst (want_no rfl rfl rfl hc1) rfl (by decide) ?_
      refine GoOps.q rfl rfl (by decide) (q_pickF (btF rfl hc1) rfl) ?_
      exact hj3 _ _ _ h rfl

/-- keelson.crc.add -/
def crc_add (p0 : Int) (p1 : Sl) (H : PH) (Q : Int → PH → Prop) : Prop :=
  mLoop (fun (s1 : Int × Int) (H4 : PH) (again2 : (Int × Int) → PH → Prop) =>
  mIf (decide (s1.2 < (p1.len : Int)))
  (mIdx p1 1 s1.2 fun a6 =>
  mLd (.int .u8) H4 a6 fun x8 =>
  mLoop (fun (s10 : Int × Int) (H13 : PH) (again11 : (Int × Int) → PH → Prop) =>
  mIf (decide (s10.2 < 8))
  (mJoin (fun (s15 : Int) (H17 : PH) =>
  again11 (s15, IntKind.wrap .i64 (s10.2 + 1)) H17)
  fun j16 =>
  mGe s10.2 <|
  mIf ((iand .u32 (ixor .u32 s10.1 (ishr .u32 (IntKind.wrap .u32 x8) s10.2)) 1) == 1)
  (j16 (ixor .u32 (ishr .u32 s10.1 1) 2197175160) H13)
  (j16 (ishr .u32 s10.1 1) H13))
  (again2 (s10.1, IntKind.wrap .i64 (s1.2 + 1)) H13))
  (s1.1, 0) H4)
  (Q s1.1 H4))
  (p0, 0) H

set_option maxRecDepth 20000 in
set_option maxHeartbeats 1000000 in
theorem crc_add_s (p0 : Int) (p1 : Sl) (H : PH) (Q : Int → PH → Prop) (h : crc_add p0 p1 H Q) :
    CallsH Try.prog 16 #[.int .u32 p0, Sl.v p1] H (fun v H' => ∃ (r0 : Int), v = .int .u32 r0 ∧ Q r0 H') := by
  unfold crc_add at h
  refine callsH_of_go Try.func16 rfl Try.ntmps16 (Nat.le_of_ble_eq_true rfl) ?_
  refine Go.seq ?_
  refine Go.region rfl ?_
  refine GoOps.q rfl rfl (by decide) (q_assign rfl) ?_
  refine GoOps.nil ?_
  refine Go.seq ?_
  refine Go.seq ?_
  refine Go.region rfl ?_
  refine GoOps.q rfl rfl (by decide) (q_move rfl) ?_
  refine GoOps.q rfl rfl (by decide) (q_len Try.underlying23 rfl (ls1 rfl)) ?_
  refine GoOps.q rfl rfl (by decide) (q_move rfl) ?_
  refine GoOps.nil ?_
  refine Go.block ?_
  refine loop_go (fun ρ (s1 : Int × Int) => ρ 0 = .int .u32 s1.1 ∧ ρ 9 = Sl.v p1 ∧ ρ 10 = .int .i64 (p1.len : Int) ∧ ρ 11 = .int .i64 s1.2) h ⟨rfl, rfl, rfl, rfl⟩ ?_
  clear h
  intro ρ s1 H4 again2 hE h hagain2
  obtain ⟨e3_0, e3_9, e3_10, e3_11⟩ := hE
  refine Go.seq ?_
  refine Go.region rfl ?_
  refine GoOps.q rfl rfl (by decide) (q_lss e3_11 e3_10) ?_
  refine GoOps.nil ?_
  refine Go.seq ?_
  rcases bor (decide (s1.2 < (p1.len : Int))) with hc5 | hc5
  · have h := h.1 hc5
    refine Go.condT (btT rfl hc5) ?_
    refine Go.skip ?_
    refine Go.seq ?_
    refine Go.block ?_
    refine Go.seq ?_
    refine Go.region rfl ?_
    obtain ⟨a6, ha7, h⟩ := h
    refine GoOps.q rfl rfl (by decide) (q_idx slice23 ha7 e3_9 e3_11) ?_
    obtain ⟨x8, hx9, h⟩ := h
    refine GoOps.q rfl rfl (by decide) (q_load scalar5 rfl hx9) ?_
    refine GoOps.q rfl rfl (by decide) (q_assign rfl) ?_
    refine GoOps.nil ?_
    refine Go.seq ?_
    refine Go.region rfl ?_
    refine GoOps.q rfl rfl (by decide) (q_move rfl) ?_
    refine GoOps.nil ?_
    refine Go.block ?_
    refine loop_go (fun ρ (s10 : Int × Int) => ρ 0 = .int .u32 s10.1 ∧ ρ 6 = .int .u8 x8 ∧ ρ 9 = Sl.v p1 ∧ ρ 10 = .int .i64 (p1.len : Int) ∧ ρ 11 = .int .i64 s1.2 ∧ ρ 15 = .int .i64 s10.2) h ⟨e3_0, rfl, e3_9, e3_10, e3_11, rfl⟩ ?_
    clear h
    intro ρ s10 H13 again11 hE h hagain11
    obtain ⟨e12_0, e12_6, e12_9, e12_10, e12_11, e12_15⟩ := hE
    refine Go.seq ?_
    refine Go.region rfl ?_
    refine GoOps.q rfl rfl (by decide) (q_lss e12_15 rfl) ?_
    refine GoOps.nil ?_
    refine Go.seq ?_
    rcases bor (decide (s10.2 < 8)) with hc14 | hc14
    · have h := h.1 hc14
      refine Go.condT (btT rfl hc14) ?_
      refine Go.skip ?_
      refine Go.seq ?_
      refine join_go 1 (fun ρ (s15 : Int) => ρ 0 = .int .u32 s15 ∧ ρ 6 = .int .u8 x8 ∧ ρ 9 = Sl.v p1 ∧ ρ 10 = .int .i64 (p1.len : Int) ∧ ρ 11 = .int .i64 s1.2 ∧ ρ 15 = .int .i64 s10.2) h ?_ ?_ <;> clear h
      · intro s15 H17 ρ h hE
        obtain ⟨e18_0, e18_6, e18_9, e18_10, e18_11, e18_15⟩ := hE
        refine Go.region rfl ?_
        refine GoOps.q rfl rfl (by decide) (q_add e18_15 rfl) ?_
        refine GoOps.q rfl rfl (by decide) (q_move rfl) ?_
        refine GoOps.nil ?_
        exact hagain11 _ _ _ h ⟨e18_0, e18_6, e18_9, e18_10, e18_11, rfl⟩
      · intro j16 hj16 h
        refine Go.block ?_
        refine Go.seq ?_
        refine Go.region rfl ?_
        refine GoOps.q rfl rfl (by decide) (q_move e12_15) ?_
        refine GoOps.q rfl rfl (by decide) (q_assign rfl) ?_
        refine GoOps.nil ?_
        refine Go.seq ?_
        refine Go.region rfl ?_
        refine GoOps.q rfl rfl (by decide) (q_move e12_0) ?_
        refine GoOps.q rfl rfl (by decide) (q_move e12_6) ?_
        refine GoOps.q rfl rfl (by decide) (q_conv Try.underlying5 Try.underlying34 rfl) ?_
        refine GoOps.q rfl rfl (by decide) (q_move rfl) ?_
        obtain ⟨hn19, h⟩ := h
        refine GoOps.q rfl rfl (by decide) (q_shr hn19 rfl rfl) ?_
        refine GoOps.q rfl rfl (by decide) (q_xor rfl rfl) ?_
        refine GoOps.q rfl rfl (by decide) (q_assign rfl) ?_
        refine GoOps.nil ?_
        refine Go.seq ?_
        refine Go.region rfl ?_
        refine GoOps.q rfl rfl (by decide) (q_move e12_0) ?_
        refine GoOps.q rfl rfl (by decide) (q_shr (by decide) rfl rfl) ?_
        refine GoOps.q rfl rfl (by decide) (q_assign rfl) ?_
        refine GoOps.nil ?_
        refine Go.seq ?_
        refine Go.region rfl ?_
        refine GoOps.q rfl rfl (by decide) (q_move rfl) ?_
        refine GoOps.q rfl rfl (by decide) (q_and rfl rfl) ?_
        refine GoOps.q rfl rfl (by decide) (q_eql rfl rfl) ?_
        refine GoOps.nil ?_
        rcases bor ((iand .u32 (ixor .u32 s10.1 (ishr .u32 (IntKind.wrap .u32 x8) s10.2)) 1) == 1) with hc20 | hc20
        · have h := h.1 hc20
          refine Go.condT (btT rfl hc20) ?_
          refine Go.region rfl ?_
          refine GoOps.q rfl rfl (by decide) (q_move rfl) ?_
          refine GoOps.q rfl rfl (by decide) (q_xor rfl rfl) ?_
          refine GoOps.q rfl rfl (by decide) (q_assign rfl) ?_
          refine GoOps.nil ?_
          refine Go.inBlock ?_
          exact hj16 _ _ _ h ⟨rfl, e12_6, e12_9, e12_10, e12_11, e12_15⟩
        · have h := h.2 hc20
          refine Go.condF (btF rfl hc20) ?_
          refine Go.skip ?_
          refine Go.inBlock ?_
          exact hj16 _ _ _ h ⟨rfl, e12_6, e12_9, e12_10, e12_11, e12_15⟩
    · have h := h.2 hc14
      refine Go.condF (btF rfl hc14) ?_
      refine Go.exit rfl ?_
      refine Go.inBlock ?_
      refine Go.region rfl ?_
      refine GoOps.q rfl rfl (by decide) (q_add e12_11 rfl) ?_
      refine GoOps.q rfl rfl (by decide) (q_move rfl) ?_
      refine GoOps.nil ?_
      exact hagain2 _ _ _ h ⟨e12_0, e12_9, e12_10, rfl⟩
  · have h := h.2 hc5
    refine Go.condF (btF rfl hc5) ?_
    refine Go.exit rfl ?_
    refine Go.seq ?_
    refine Go.region rfl ?_
    refine GoOps.q rfl rfl (by decide) (q_move e3_0) ?_
    refine GoOps.q rfl rfl (by decide) (q_assign rfl) ?_
    refine GoOps.nil ?_
    exact Go.ret ⟨.inl rfl, _, _, DOk.nil, (resOk1 Try.results16 rfl), ⟨_, rfl, h⟩⟩

/-- keelson.crc.Sum -/
def crc_Sum (p0 : Sl) (H : PH) (Q : Int → PH → Prop) : Prop :=
  mLoop (fun (s1 : Int × Int) (H4 : PH) (again2 : (Int × Int) → PH → Prop) =>
  mIf (decide (s1.2 < (p0.len : Int)))
  (mIdx p0 1 s1.2 fun a6 =>
  mLd Sl.v H4 a6 fun x8 =>
  crc_add s1.1 x8 H4 fun y11 H10 =>
  again2 (y11, IntKind.wrap .i64 (s1.2 + 1)) H10)
  (Q (IntKind.wrap .i64 (icom .u32 s1.1)) H4))
  (4294967295, 0) H

set_option maxRecDepth 20000 in
set_option maxHeartbeats 1000000 in
theorem crc_Sum_s (p0 : Sl) (H : PH) (Q : Int → PH → Prop) (h : crc_Sum p0 H Q) :
    CallsH Try.prog 9 #[Sl.v p0] H (fun v H' => ∃ (r0 : Int), v = .int .i64 r0 ∧ Q r0 H') := by
  unfold crc_Sum at h
  refine callsH_of_go Try.func9 rfl Try.ntmps9 (Nat.le_of_ble_eq_true rfl) ?_
  refine Go.seq ?_
  refine Go.region rfl ?_
  refine GoOps.q rfl rfl (by decide) (q_assign rfl) ?_
  refine GoOps.nil ?_
  refine Go.seq ?_
  refine Go.region rfl ?_
  refine GoOps.q rfl rfl (by decide) (q_assign rfl) ?_
  refine GoOps.nil ?_
  refine Go.seq ?_
  refine Go.seq ?_
  refine Go.region rfl ?_
  refine GoOps.q rfl rfl (by decide) (q_move rfl) ?_
  refine GoOps.q rfl rfl (by decide) (q_len Try.underlying22 rfl (ls1 rfl)) ?_
  refine GoOps.q rfl rfl (by decide) (q_move rfl) ?_
  refine GoOps.nil ?_
  refine Go.block ?_
  refine loop_go (fun ρ (s1 : Int × Int) => ρ 3 = .int .u32 s1.1 ∧ ρ 6 = Sl.v p0 ∧ ρ 7 = .int .i64 (p0.len : Int) ∧ ρ 8 = .int .i64 s1.2) h ⟨rfl, rfl, rfl, rfl⟩ ?_
  clear h
  intro ρ s1 H4 again2 hE h hagain2
  obtain ⟨e3_3, e3_6, e3_7, e3_8⟩ := hE
  refine Go.seq ?_
  refine Go.region rfl ?_
  refine GoOps.q rfl rfl (by decide) (q_lss e3_8 e3_7) ?_
  refine GoOps.nil ?_
  refine Go.seq ?_
  rcases bor (decide (s1.2 < (p0.len : Int))) with hc5 | hc5
  · have h := h.1 hc5
    refine Go.condT (btT rfl hc5) ?_
    refine Go.skip ?_
    refine Go.seq ?_
    refine Go.block ?_
    refine Go.seq ?_
    refine Go.region rfl ?_
    obtain ⟨a6, ha7, h⟩ := h
    refine GoOps.q rfl rfl (by decide) (q_idx slice22 ha7 e3_6 e3_8) ?_
    obtain ⟨x8, hx9, h⟩ := h
    refine GoOps.q rfl rfl (by decide) (q_load scalar23 rfl hx9) ?_
    refine GoOps.q rfl rfl (by decide) (q_assign rfl) ?_
    refine GoOps.nil ?_
    refine Go.region rfl ?_
    refine GoOps.q rfl rfl (by decide) (q_move e3_3) ?_
    refine GoOps.q rfl rfl (by decide) (q_move rfl) ?_
    refine call_dst rfl (by decide) body16 (crc_add_s _ _ _ _ h) rfl ?_
    rintro _ H10 ⟨y11, rfl, h⟩
    refine GoOps.q rfl rfl (by decide) (q_assign rfl) ?_
    refine GoOps.nil ?_
    refine Go.inBlock ?_
    refine Go.region rfl ?_
    refine GoOps.q rfl rfl (by decide) (q_add e3_8 rfl) ?_
    refine GoOps.q rfl rfl (by decide) (q_move rfl) ?_
    refine GoOps.nil ?_
    exact hagain2 _ _ _ h ⟨rfl, e3_6, e3_7, rfl⟩
  · have h := h.2 hc5
    refine Go.condF (btF rfl hc5) ?_
    refine Go.exit rfl ?_
    refine Go.seq ?_
    refine Go.region rfl ?_
    refine GoOps.q rfl rfl (by decide) (q_move e3_3) ?_
    refine GoOps.q rfl rfl (by decide) (q_com rfl) ?_
    refine GoOps.q rfl rfl (by decide) (q_conv Try.underlying34 Try.underlying3 rfl) ?_
    refine GoOps.q rfl rfl (by decide) (q_assign rfl) ?_
    refine GoOps.nil ?_
    exact Go.ret ⟨.inl rfl, _, _, DOk.nil, (resOk1 Try.results9 rfl), ⟨_, rfl, h⟩⟩

/-- keelson.crc.More -/
def crc_More (p0 : Int) (p1 : Sl) (H : PH) (Q : Int → PH → Prop) : Prop :=
  crc_add (icom .u32 (IntKind.wrap .u32 (iand .i64 p0 4294967295))) p1 H fun y2 H1 =>
  Q (IntKind.wrap .i64 (icom .u32 y2)) H1

set_option maxRecDepth 20000 in
set_option maxHeartbeats 1000000 in
theorem crc_More_s (p0 : Int) (p1 : Sl) (H : PH) (Q : Int → PH → Prop) (h : crc_More p0 p1 H Q) :
    CallsH Try.prog 12 #[.int .i64 p0, Sl.v p1] H (fun v H' => ∃ (r0 : Int), v = .int .i64 r0 ∧ Q r0 H') := by
  unfold crc_More at h
  refine callsH_of_go Try.func12 rfl Try.ntmps12 (Nat.le_of_ble_eq_true rfl) ?_
  refine Go.seq ?_
  refine Go.region rfl ?_
  refine GoOps.q rfl rfl (by decide) (q_assign rfl) ?_
  refine GoOps.nil ?_
  refine Go.seq ?_
  refine Go.region rfl ?_
  refine GoOps.q rfl rfl (by decide) (q_move rfl) ?_
  refine GoOps.q rfl rfl (by decide) (q_and rfl rfl) ?_
  refine GoOps.q rfl rfl (by decide) (q_conv Try.underlying3 Try.underlying34 rfl) ?_
  refine GoOps.q rfl rfl (by decide) (q_com rfl) ?_
  refine GoOps.q rfl rfl (by decide) (q_move rfl) ?_
  refine call_dst rfl (by decide) body16 (crc_add_s _ _ _ _ h) rfl ?_
  rintro _ H1 ⟨y2, rfl, h⟩
  refine GoOps.q rfl rfl (by decide) (q_com rfl) ?_
  refine GoOps.q rfl rfl (by decide) (q_conv Try.underlying34 Try.underlying3 rfl) ?_
  refine GoOps.q rfl rfl (by decide) (q_assign rfl) ?_
  refine GoOps.nil ?_
  exact Go.ret ⟨.inl rfl, _, _, DOk.nil, (resOk1 Try.results12 rfl), ⟨_, rfl, h⟩⟩

/-- keelson.keelsonlaw2.awake -/
def keelsonlaw2_awake (H : PH) (Q : Bool → PH → Prop) : Prop :=
  mNewS H (row [.int .u8 49, .int .u8 50, .int .u8 51, .int .u8 52, .int .u8 53, .int .u8 54, .int .u8 55, .int .u8 56, .int .u8 57] 5) 9 fun r1 H2 =>
  mMark H2 r1 fun H4 =>
  mNewS H4 (row [Sl.v r1] 23) 1 fun r5 H6 =>
  crc_Sum r5 H6 fun y9 H8 =>
  mJoin (fun (s11 : Bool) (H13 : PH) =>
  mJoin (fun (s16 : Bool) (H18 : PH) =>
  Q s16 H18)
  fun j17 =>
  mIf s11
  (mNewS H13 (row [.int .u8 49, .int .u8 50, .int .u8 51, .int .u8 52] 5) 4 fun r20 H21 =>
  mMark H21 r20 fun H23 =>
  mNewS H23 (row [Sl.v r20] 23) 1 fun r24 H25 =>
  crc_Sum r24 H25 fun y28 H27 =>
  mNewS H27 (row [.int .u8 53, .int .u8 54, .int .u8 55, .int .u8 56, .int .u8 57] 5) 5 fun r29 H30 =>
  mMark H30 r29 fun H32 =>
  crc_More y28 r29 H32 fun y34 H33 =>
  j17 (y34 == y9) H33)
  (j17 false H13))
  fun j12 =>
  mIf (y9 == 3808858755)
  (crc_Sum Sl.nil H8 fun y36 H35 =>
  j12 (y36 == 0) H35)
  (j12 false H8)

set_option maxRecDepth 20000 in
set_option maxHeartbeats 1000000 in
theorem keelsonlaw2_awake_s (H : PH) (Q : Bool → PH → Prop) (h : keelsonlaw2_awake H Q) :
    CallsH Try.prog 8 #[] H (fun v H' => ∃ (r0 : Bool), v = .bool r0 ∧ Q r0 H') := by
  unfold keelsonlaw2_awake at h
  refine callsH_of_go Try.func8 rfl Try.ntmps8 (Nat.le_of_ble_eq_true rfl) ?_
  refine Go.seq ?_
  refine Go.region rfl ?_
  refine GoOps.q rfl rfl (by decide) (q_assign rfl) ?_
  refine GoOps.nil ?_
  refine Go.seq ?_
  refine Go.region rfl ?_
  refine op_dst rfl rfl (by decide) (do_bs (ps := [(0, .int .u8 49), (1, .int .u8 50), (2, .int .u8 51), (3, .int .u8 52), (4, .int .u8 53), (5, .int .u8 54), (6, .int .u8 55), (7, .int .u8 56), (8, .int .u8 57)]) (zs := [.int .u8 0]) (cs := [.int .u8 49, .int .u8 50, .int .u8 51, .int .u8 52, .int .u8 53, .int .u8 54, .int .u8 55, .int .u8 56, .int .u8 57]) slice23 zero5 rfl rfl (by decide) (by decide) rfl rfl fun r1 H2 hb3 => ?_) 
  have h := h r1 H2 hb3
  refine op_dst rfl rfl (by decide) (do_mark Try.underlying23 Try.underlying5 rfl h fun H4 h => ?_) 
  refine op_dst rfl rfl (by decide) (do_bs (ps := [(0, Sl.v r1)]) (zs := [.slice none 0 0]) (cs := [Sl.v r1]) slice22 zero23 rfl rfl (by decide) (by decide) rfl rfl fun r5 H6 hb7 => ?_) 
  have h := h r5 H6 hb7
  refine call_dst rfl (by decide) body9 (crc_Sum_s _ _ _ h) rfl ?_
  rintro _ H8 ⟨y9, rfl, h⟩
  refine GoOps.q rfl rfl (by decide) (q_assign rfl) ?_
  refine GoOps.nil ?_
  refine Go.seq ?_
  refine Go.region rfl ?_
  refine GoOps.q rfl rfl (by decide) (q_move rfl) ?_
  refine GoOps.q rfl rfl (by decide) (q_eql rfl rfl) ?_
  refine GoOps.q rfl rfl (by decide) (q_move rfl) ?_
  refine join_ops 3 (fun ρ (s11 : Bool) => ρ 1 = .int .i64 y9 ∧ ρ 11 = .bool s11) h ?_ ?_ <;> clear h
  · intro s11 H13 ρ h hE
    obtain ⟨e14_1, e14_11⟩ := hE
    refine GoOps.q rfl rfl (by decide) (q_move e14_11) ?_
    refine join_ops 10 (fun ρ (s16 : Bool) => ρ 22 = .bool s16) h ?_ ?_ <;> clear h
    · intro s16 H18 ρ h hE
      have e19_22 := hE
      refine GoOps.q rfl rfl (by decide) (q_assign e19_22) ?_
      refine GoOps.nil ?_
      exact Go.ret ⟨.inl rfl, _, _, DOk.nil, (resOk1 Try.results8 rfl), ⟨_, rfl, h⟩⟩
    · intro j17 hj17 h
      rcases bor s11 with hc15 | hc15
      · have h := h.1 hc15
        refine op_dst (want_yes rfl rfl rfl hc15) rfl (by decide) (do_bs (ps := [(0, .int .u8 49), (1, .int .u8 50), (2, .int .u8 51), (3, .int .u8 52)]) (zs := [.int .u8 0]) (cs := [.int .u8 49, .int .u8 50, .int .u8 51, .int .u8 52]) slice23 zero5 rfl rfl (by decide) (by decide) rfl rfl fun r20 H21 hb22 => ?_) 
        have h := h r20 H21 hb22
        refine op_dst (want_yes rfl rfl rfl hc15) rfl (by decide) (do_mark Try.underlying23 Try.underlying5 rfl h fun H23 h => ?_) 
        refine op_dst (want_yes rfl rfl rfl hc15) rfl (by decide) (do_bs (ps := [(0, Sl.v r20)]) (zs := [.slice none 0 0]) (cs := [Sl.v r20]) slice22 zero23 rfl rfl (by decide) (by decide) rfl rfl fun r24 H25 hb26 => ?_) 
        have h := h r24 H25 hb26
        refine call_dst (want_yes rfl rfl rfl hc15) (by decide) body9 (crc_Sum_s _ _ _ h) rfl ?_
        rintro _ H27 ⟨y28, rfl, h⟩
        refine op_dst (want_yes rfl rfl rfl hc15) rfl (by decide) (do_bs (ps := [(0, .int .u8 53), (1, .int .u8 54), (2, .int .u8 55), (3, .int .u8 56), (4, .int .u8 57)]) (zs := [.int .u8 0]) (cs := [.int .u8 53, .int .u8 54, .int .u8 55, .int .u8 56, .int .u8 57]) slice23 zero5 rfl rfl (by decide) (by decide) rfl rfl fun r29 H30 hb31 => ?_) 
        have h := h r29 H30 hb31
        refine op_dst (want_yes rfl rfl rfl hc15) rfl (by decide) (do_mark Try.underlying23 Try.underlying5 rfl h fun H32 h => ?_) 
        refine call_dst (want_yes rfl rfl rfl hc15) (by decide) body12 (crc_More_s _ _ _ _ h) rfl ?_
        rintro _ H33 ⟨y34, rfl, h⟩
        refine GoOps.q (want_yes rfl rfl rfl hc15) rfl (by decide) (q_move e14_1) ?_
        refine GoOps.q (want_yes rfl rfl rfl hc15) rfl (by decide) (q_eql rfl rfl) ?_
        refine GoOps.q rfl rfl (by decide) (q_pickT (btT rfl hc15) rfl) ?_
        exact hj17 _ _ _ h rfl
      · have h := h.2 hc15
        refine no_dst (want_no rfl rfl rfl hc15) rfl (by decide) ?_
        refine no_dst (want_no rfl rfl rfl hc15) rfl (by decide) ?_
        refine no_dst (want_no rfl rfl rfl hc15) rfl (by decide) ?_
        refine no_dst (want_no rfl rfl rfl hc15) rfl (by decide) ?_
        refine no_dst (want_no rfl rfl rfl hc15) rfl (by decide) ?_
        refine no_dst (want_no rfl rfl rfl hc15) rfl (by decide) ?_
        refine no_dst (want_no rfl rfl rfl hc15) rfl (by decide) ?_
        refine no_dst (want_no rfl rfl rfl hc15) rfl (by decide) ?_
        refine no_dst (want_no rfl rfl rfl hc15) rfl (by decide) ?_
        refine GoOps.q rfl rfl (by decide) (q_pickF (btF rfl hc15) rfl) ?_
        exact hj17 _ _ _ h rfl
  · intro j12 hj12 h
    rcases bor (y9 == 3808858755) with hc10 | hc10
    · have h := h.1 hc10
      refine call_dst (want_yes rfl rfl rfl hc10) (by decide) body9 (crc_Sum_s _ _ _ h) rfl ?_
      rintro _ H35 ⟨y36, rfl, h⟩
      refine GoOps.q (want_yes rfl rfl rfl hc10) rfl (by decide) (q_eql rfl rfl) ?_
      refine GoOps.q rfl rfl (by decide) (q_pickT (btT rfl hc10) rfl) ?_
      exact hj12 _ _ _ h ⟨rfl, rfl⟩
    · have h := h.2 hc10
      refine no_dst (want_no rfl rfl rfl hc10) rfl (by decide) ?_
      refine no_dst (want_no rfl rfl rfl hc10) rfl (by decide) ?_
      refine GoOps.q rfl rfl (by decide) (q_pickF (btF rfl hc10) rfl) ?_
      exact hj12 _ _ _ h ⟨rfl, rfl⟩

/-- keelson.keelsonref1.Mod -/
def keelsonref1_Mod (p0 : Int) (p1 : Int) (H : PH) (Q : Int → PH → Prop) : Prop :=
  mNe p1 <|
  mJoin (fun (s2 : Int) (H4 : PH) =>
  Q s2 H4)
  fun j3 =>
  mIf (decide ((Int.tmod p0 p1) < 0))
  (j3 (IntKind.wrap .i64 ((Int.tmod p0 p1) + p1)) H)
  (j3 (Int.tmod p0 p1) H)

set_option maxRecDepth 20000 in
set_option maxHeartbeats 1000000 in
theorem keelsonref1_Mod_s (p0 : Int) (p1 : Int) (H : PH) (Q : Int → PH → Prop) (h : keelsonref1_Mod p0 p1 H Q) :
    CallsH Try.prog 17 #[.int .i64 p0, .int .i64 p1] H (fun v H' => ∃ (r0 : Int), v = .int .i64 r0 ∧ Q r0 H') := by
  unfold keelsonref1_Mod at h
  refine callsH_of_go Try.func17 rfl Try.ntmps17 (Nat.le_of_ble_eq_true rfl) ?_
  refine Go.seq ?_
  refine Go.region rfl ?_
  refine GoOps.q rfl rfl (by decide) (q_assign rfl) ?_
  refine GoOps.nil ?_
  refine Go.seq ?_
  refine Go.region rfl ?_
  refine GoOps.q rfl rfl (by decide) (q_move rfl) ?_
  refine GoOps.q rfl rfl (by decide) (q_move rfl) ?_
  obtain ⟨hn1, h⟩ := h
  refine GoOps.q rfl rfl (by decide) (q_rem hn1 rfl rfl) ?_
  refine GoOps.q rfl rfl (by decide) (q_assign rfl) ?_
  refine GoOps.nil ?_
  refine Go.seq ?_
  refine Go.seq ?_
  refine Go.region rfl ?_
  refine GoOps.q rfl rfl (by decide) (q_move rfl) ?_
  refine GoOps.q rfl rfl (by decide) (q_lss rfl rfl) ?_
  refine GoOps.nil ?_
  refine join_go 1 (fun ρ (s2 : Int) => ρ 5 = .int .i64 s2) h ?_ ?_ <;> clear h
  · intro s2 H4 ρ h hE
    have e5_5 := hE
    refine Go.seq ?_
    refine Go.region rfl ?_
    refine GoOps.q rfl rfl (by decide) (q_move e5_5) ?_
    refine GoOps.q rfl rfl (by decide) (q_assign rfl) ?_
    refine GoOps.nil ?_
    exact Go.ret ⟨.inl rfl, _, _, DOk.nil, (resOk1 Try.results17 rfl), ⟨_, rfl, h⟩⟩
  · intro j3 hj3 h
    rcases bor (decide ((Int.tmod p0 p1) < 0)) with hc6 | hc6
    · have h := h.1 hc6
      refine Go.condT (btT rfl hc6) ?_
      refine Go.region rfl ?_
      refine GoOps.q rfl rfl (by decide) (q_move rfl) ?_
      refine GoOps.q rfl rfl (by decide) (q_move rfl) ?_
      refine GoOps.q rfl rfl (by decide) (q_add rfl rfl) ?_
      refine GoOps.q rfl rfl (by decide) (q_assign rfl) ?_
      refine GoOps.nil ?_
      exact hj3 _ _ _ h rfl
    · have h := h.2 hc6
      refine Go.condF (btF rfl hc6) ?_
      refine Go.skip ?_
      exact hj3 _ _ _ h rfl

/-- keelson.keelsonref1.More -/
def keelsonref1_More (p0 : Int) (p1 : Sl) (H : PH) (Q : Int → PH → Prop) : Prop :=
  keelsonref1_Mod p0 4294967296 H fun y2 H1 =>
  mLoop (fun (s3 : Int × Int) (H6 : PH) (again4 : (Int × Int) → PH → Prop) =>
  mIf (decide (s3.2 < (p1.len : Int)))
  (mIdx p1 1 s3.2 fun a8 =>
  mLd (.int .u8) H6 a8 fun x10 =>
  mLoop (fun (s12 : Int × Int × Int) (H15 : PH) (again13 : (Int × Int × Int) → PH → Prop) =>
  mIf (decide (s12.2.2 < 8))
  (mJoin (fun (s17 : Int × Int) (H19 : PH) =>
  again13 (s17.1, s17.2, IntKind.wrap .i64 (s12.2.2 + 1)) H19)
  fun j18 =>
  mIf ((iand .u32 (ixor .u32 s12.1 s12.2.1) 1) == 1)
  (j18 (ixor .u32 (ishr .u32 s12.1 1) 2197175160, ishr .u32 s12.2.1 1) H15)
  (j18 (ishr .u32 s12.1 1, ishr .u32 s12.2.1 1) H15))
  (again4 (s12.1, IntKind.wrap .i64 (s3.2 + 1)) H15))
  (s3.1, IntKind.wrap .u32 x10, 0) H6)
  (Q (IntKind.wrap .i64 (icom .u32 s3.1)) H6))
  (icom .u32 (IntKind.wrap .u32 y2), 0) H1

set_option maxRecDepth 20000 in
set_option maxHeartbeats 1000000 in
theorem keelsonref1_More_s (p0 : Int) (p1 : Sl) (H : PH) (Q : Int → PH → Prop) (h : keelsonref1_More p0 p1 H Q) :
    CallsH Try.prog 13 #[.int .i64 p0, Sl.v p1] H (fun v H' => ∃ (r0 : Int), v = .int .i64 r0 ∧ Q r0 H') := by
  unfold keelsonref1_More at h
  refine callsH_of_go Try.func13 rfl Try.ntmps13 (Nat.le_of_ble_eq_true rfl) ?_
  refine Go.seq ?_
  refine Go.region rfl ?_
  refine GoOps.q rfl rfl (by decide) (q_assign rfl) ?_
  refine GoOps.nil ?_
  refine Go.seq ?_
  refine Go.region rfl ?_
  refine GoOps.q rfl rfl (by decide) (q_move rfl) ?_
  refine call_dst rfl (by decide) body17 (keelsonref1_Mod_s _ _ _ _ h) rfl ?_
  rintro _ H1 ⟨y2, rfl, h⟩
  refine GoOps.q rfl rfl (by decide) (q_conv Try.underlying3 Try.underlying34 rfl) ?_
  refine GoOps.q rfl rfl (by decide) (q_com rfl) ?_
  refine GoOps.q rfl rfl (by decide) (q_assign rfl) ?_
  refine GoOps.nil ?_
  refine Go.seq ?_
  refine Go.seq ?_
  refine Go.region rfl ?_
  refine GoOps.q rfl rfl (by decide) (q_assign rfl) ?_
  refine GoOps.nil ?_
  refine Go.block ?_
  refine loop_go (fun ρ (s3 : Int × Int) => ρ 1 = Sl.v p1 ∧ ρ 5 = .int .u32 s3.1 ∧ ρ 6 = .int .i64 s3.2) h ⟨rfl, rfl, rfl⟩ ?_
  clear h
  intro ρ s3 H6 again4 hE h hagain4
  obtain ⟨e5_1, e5_5, e5_6⟩ := hE
  refine Go.seq ?_
  refine Go.seq ?_
  refine Go.region rfl ?_
  refine GoOps.q rfl rfl (by decide) (q_move e5_6) ?_
  refine GoOps.q rfl rfl (by decide) (q_move e5_1) ?_
  refine GoOps.q rfl rfl (by decide) (q_len Try.underlying23 rfl (ls1 rfl)) ?_
  refine GoOps.q rfl rfl (by decide) (q_lss rfl rfl) ?_
  refine GoOps.nil ?_
  rcases bor (decide (s3.2 < (p1.len : Int))) with hc7 | hc7
  · have h := h.1 hc7
    refine Go.condT (btT rfl hc7) ?_
    refine Go.skip ?_
    refine Go.seq ?_
    refine Go.block ?_
    refine Go.seq ?_
    refine Go.region rfl ?_
    refine GoOps.q rfl rfl (by decide) (q_move e5_1) ?_
    refine GoOps.q rfl rfl (by decide) (q_move e5_6) ?_
    obtain ⟨a8, ha9, h⟩ := h
    refine GoOps.q rfl rfl (by decide) (q_idx slice23 ha9 rfl rfl) ?_
    obtain ⟨x10, hx11, h⟩ := h
    refine GoOps.q rfl rfl (by decide) (q_load scalar5 rfl hx11) ?_
    refine GoOps.q rfl rfl (by decide) (q_conv Try.underlying5 Try.underlying34 rfl) ?_
    refine GoOps.q rfl rfl (by decide) (q_assign rfl) ?_
    refine GoOps.nil ?_
    refine Go.seq ?_
    refine Go.region rfl ?_
    refine GoOps.q rfl rfl (by decide) (q_assign rfl) ?_
    refine GoOps.nil ?_
    refine Go.block ?_
    refine loop_go (fun ρ (s12 : Int × Int × Int) => ρ 1 = Sl.v p1 ∧ ρ 5 = .int .u32 s12.1 ∧ ρ 6 = .int .i64 s3.2 ∧ ρ 7 = .int .u32 s12.2.1 ∧ ρ 8 = .int .i64 s12.2.2) h ⟨e5_1, e5_5, e5_6, rfl, rfl⟩ ?_
    clear h
    intro ρ s12 H15 again13 hE h hagain13
    obtain ⟨e14_1, e14_5, e14_6, e14_7, e14_8⟩ := hE
    refine Go.seq ?_
    refine Go.seq ?_
    refine Go.region rfl ?_
    refine GoOps.q rfl rfl (by decide) (q_move e14_8) ?_
    refine GoOps.q rfl rfl (by decide) (q_lss rfl rfl) ?_
    refine GoOps.nil ?_
    rcases bor (decide (s12.2.2 < 8)) with hc16 | hc16
    · have h := h.1 hc16
      refine Go.condT (btT rfl hc16) ?_
      refine Go.skip ?_
      refine Go.seq ?_
      refine join_go 1 (fun ρ (s17 : Int × Int) => ρ 1 = Sl.v p1 ∧ ρ 5 = .int .u32 s17.1 ∧ ρ 6 = .int .i64 s3.2 ∧ ρ 7 = .int .u32 s17.2 ∧ ρ 8 = .int .i64 s12.2.2) h ?_ ?_ <;> clear h
      · intro s17 H19 ρ h hE
        obtain ⟨e20_1, e20_5, e20_6, e20_7, e20_8⟩ := hE
        refine Go.region rfl ?_
        refine GoOps.q rfl rfl (by decide) (q_move e20_8) ?_
        refine GoOps.q rfl rfl (by decide) (q_add rfl rfl) ?_
        refine GoOps.q rfl rfl (by decide) (q_assign rfl) ?_
        refine GoOps.nil ?_
        exact hagain13 _ _ _ h ⟨e20_1, e20_5, e20_6, e20_7, rfl⟩
      · intro j18 hj18 h
        refine Go.block ?_
        refine Go.seq ?_
        refine Go.region rfl ?_
        refine GoOps.q rfl rfl (by decide) (q_move e14_5) ?_
        refine GoOps.q rfl rfl (by decide) (q_move e14_7) ?_
        refine GoOps.q rfl rfl (by decide) (q_xor rfl rfl) ?_
        refine GoOps.q rfl rfl (by decide) (q_and rfl rfl) ?_
        refine GoOps.q rfl rfl (by decide) (q_assign rfl) ?_
        refine GoOps.nil ?_
        refine Go.seq ?_
        refine Go.region rfl ?_
        refine GoOps.q rfl rfl (by decide) (q_move e14_5) ?_
        refine GoOps.q rfl rfl (by decide) (q_shr (by decide) rfl rfl) ?_
        refine GoOps.q rfl rfl (by decide) (q_assign rfl) ?_
        refine GoOps.nil ?_
        refine Go.seq ?_
        refine Go.region rfl ?_
        refine GoOps.q rfl rfl (by decide) (q_move e14_7) ?_
        refine GoOps.q rfl rfl (by decide) (q_shr (by decide) rfl rfl) ?_
        refine GoOps.q rfl rfl (by decide) (q_assign rfl) ?_
        refine GoOps.nil ?_
        refine Go.seq ?_
        refine Go.region rfl ?_
        refine GoOps.q rfl rfl (by decide) (q_move rfl) ?_
        refine GoOps.q rfl rfl (by decide) (q_eql rfl rfl) ?_
        refine GoOps.nil ?_
        rcases bor ((iand .u32 (ixor .u32 s12.1 s12.2.1) 1) == 1) with hc21 | hc21
        · have h := h.1 hc21
          refine Go.condT (btT rfl hc21) ?_
          refine Go.region rfl ?_
          refine GoOps.q rfl rfl (by decide) (q_move rfl) ?_
          refine GoOps.q rfl rfl (by decide) (q_xor rfl rfl) ?_
          refine GoOps.q rfl rfl (by decide) (q_assign rfl) ?_
          refine GoOps.nil ?_
          refine Go.inBlock ?_
          exact hj18 _ _ _ h ⟨e14_1, rfl, e14_6, rfl, e14_8⟩
        · have h := h.2 hc21
          refine Go.condF (btF rfl hc21) ?_
          refine Go.skip ?_
          refine Go.inBlock ?_
          exact hj18 _ _ _ h ⟨e14_1, rfl, e14_6, rfl, e14_8⟩
    · have h := h.2 hc16
      refine Go.condF (btF rfl hc16) ?_
      refine Go.exit rfl ?_
      refine Go.inBlock ?_
      refine Go.region rfl ?_
      refine GoOps.q rfl rfl (by decide) (q_move e14_6) ?_
      refine GoOps.q rfl rfl (by decide) (q_add rfl rfl) ?_
      refine GoOps.q rfl rfl (by decide) (q_assign rfl) ?_
      refine GoOps.nil ?_
      exact hagain4 _ _ _ h ⟨e14_1, e14_5, rfl⟩
  · have h := h.2 hc7
    refine Go.condF (btF rfl hc7) ?_
    refine Go.exit rfl ?_
    refine Go.seq ?_
    refine Go.region rfl ?_
    refine GoOps.q rfl rfl (by decide) (q_move e5_5) ?_
    refine GoOps.q rfl rfl (by decide) (q_com rfl) ?_
    refine GoOps.q rfl rfl (by decide) (q_conv Try.underlying34 Try.underlying3 rfl) ?_
    refine GoOps.q rfl rfl (by decide) (q_assign rfl) ?_
    refine GoOps.nil ?_
    exact Go.ret ⟨.inl rfl, _, _, DOk.nil, (resOk1 Try.results13 rfl), ⟨_, rfl, h⟩⟩

/-- keelson.keelsonref1.Sum -/
def keelsonref1_Sum (p0 : Sl) (H : PH) (Q : Int → PH → Prop) : Prop :=
  keelsonref1_More 0 p0 H fun y2 H1 =>
  Q y2 H1

set_option maxRecDepth 20000 in
set_option maxHeartbeats 1000000 in
theorem keelsonref1_Sum_s (p0 : Sl) (H : PH) (Q : Int → PH → Prop) (h : keelsonref1_Sum p0 H Q) :
    CallsH Try.prog 10 #[Sl.v p0] H (fun v H' => ∃ (r0 : Int), v = .int .i64 r0 ∧ Q r0 H') := by
  unfold keelsonref1_Sum at h
  refine callsH_of_go Try.func10 rfl Try.ntmps10 (Nat.le_of_ble_eq_true rfl) ?_
  refine Go.seq ?_
  refine Go.region rfl ?_
  refine GoOps.q rfl rfl (by decide) (q_assign rfl) ?_
  refine GoOps.nil ?_
  refine Go.seq ?_
  refine Go.region rfl ?_
  refine GoOps.q rfl rfl (by decide) (q_move rfl) ?_
  refine call_dst rfl (by decide) body13 (keelsonref1_More_s _ _ _ _ h) rfl ?_
  rintro _ H1 ⟨y2, rfl, h⟩
  refine GoOps.q rfl rfl (by decide) (q_assign rfl) ?_
  refine GoOps.nil ?_
  exact Go.ret ⟨.inl rfl, _, _, DOk.nil, (resOk1 Try.results10 rfl), ⟨_, rfl, h⟩⟩

/-- keelson.keelsonlaw2.CrcTells -/
def keelsonlaw2_CrcTells (p0 : Sl) (p1 : Int) (p2 : Sl) (H : PH) (Q : Bool → PH → Prop) : Prop :=
  keelsonlaw2_few p0 H fun y2 H1 =>
  mJoin (fun (s4 : Bool) (H6 : PH) =>
  mIf s4
  (keelsonlaw2_awake H6 fun y10 H9 =>
  Q y10 H9)
  (crc_Sum p0 H6 fun y12 H11 =>
  keelsonlaw2_joined p0 H11 fun y14 H13 =>
  keelsonref1_Sum y14 H13 fun y16 H15 =>
  mJoin (fun (s18 : Bool) (H20 : PH) =>
  mJoin (fun (s23 : Bool) (H25 : PH) =>
  Q s23 H25)
  fun j24 =>
  mIf s18
  (keelsonlaw2_awake H20 fun y28 H27 =>
  j24 y28 H27)
  (j24 false H20))
  fun j19 =>
  mIf (y12 == y16)
  (crc_More p1 p2 H15 fun y30 H29 =>
  keelsonref1_More p1 p2 H29 fun y32 H31 =>
  j19 (y30 == y32) H31)
  (j19 false H15)))
  fun j5 =>
  mIf (!y2)
  (j5 true H1)
  (j5 (decide (2000 < (p2.len : Int))) H1)

set_option maxRecDepth 20000 in
set_option maxHeartbeats 1000000 in
theorem keelsonlaw2_CrcTells_s (p0 : Sl) (p1 : Int) (p2 : Sl) (H : PH) (Q : Bool → PH → Prop) (h : keelsonlaw2_CrcTells p0 p1 p2 H Q) :
    CallsH Try.prog 3 #[Sl.v p0, .int .i64 p1, Sl.v p2] H (fun v H' => ∃ (r0 : Bool), v = .bool r0 ∧ Q r0 H') := by
  unfold keelsonlaw2_CrcTells at h
  refine callsH_of_go Try.func3 rfl Try.ntmps3 (Nat.le_of_ble_eq_true rfl) ?_
  refine Go.seq ?_
  refine Go.region rfl ?_
  refine GoOps.q rfl rfl (by decide) (q_assign rfl) ?_
  refine GoOps.nil ?_
  refine Go.seq ?_
  refine Go.seq ?_
  refine Go.region rfl ?_
  refine GoOps.q rfl rfl (by decide) (q_move rfl) ?_
  refine call_dst rfl (by decide) body7 (keelsonlaw2_few_s _ _ _ h) rfl ?_
  rintro _ H1 ⟨y2, rfl, h⟩
  refine GoOps.q rfl rfl (by decide) (q_not rfl) ?_
  refine GoOps.q rfl rfl (by decide) (q_move rfl) ?_
  refine join_ops 4 (fun ρ (s4 : Bool) => ρ 0 = Sl.v p0 ∧ ρ 1 = .int .i64 p1 ∧ ρ 2 = Sl.v p2 ∧ ρ 14 = .bool s4) h ?_ ?_ <;> clear h
  · intro s4 H6 ρ h hE
    obtain ⟨e7_0, e7_1, e7_2, e7_14⟩ := hE
    refine GoOps.nil ?_
    rcases bor s4 with hc8 | hc8
    · have h := h.1 hc8
      refine Go.condT (btT e7_14 hc8) ?_
      refine Go.seq ?_
      refine Go.region rfl ?_
      refine call_dst rfl (by decide) body8 (keelsonlaw2_awake_s _ _ h) rfl ?_
      rintro _ H9 ⟨y10, rfl, h⟩
      refine GoOps.q rfl rfl (by decide) (q_assign rfl) ?_
      refine GoOps.nil ?_
      exact Go.ret ⟨.inl rfl, _, _, DOk.nil, (resOk1 Try.results3 rfl), ⟨_, rfl, h⟩⟩
    · have h := h.2 hc8
      refine Go.condF (btF e7_14 hc8) ?_
      refine Go.skip ?_
      refine Go.seq ?_
      refine Go.region rfl ?_
      refine GoOps.q rfl rfl (by decide) (q_move e7_0) ?_
      refine call_dst rfl (by decide) body9 (crc_Sum_s _ _ _ h) rfl ?_
      rintro _ H11 ⟨y12, rfl, h⟩
      refine GoOps.q rfl rfl (by decide) (q_move e7_0) ?_
      refine call_dst rfl (by decide) body11 (keelsonlaw2_joined_s _ _ _ h) rfl ?_
      rintro _ H13 ⟨y14, rfl, h⟩
      refine call_dst rfl (by decide) body10 (keelsonref1_Sum_s _ _ _ h) rfl ?_
      rintro _ H15 ⟨y16, rfl, h⟩
      refine GoOps.q rfl rfl (by decide) (q_eql rfl rfl) ?_
      refine GoOps.q rfl rfl (by decide) (q_move rfl) ?_
      refine join_ops 8 (fun ρ (s18 : Bool) => ρ 30 = .bool s18) h ?_ ?_ <;> clear h
      · intro s18 H20 ρ h hE
        have e21_30 := hE
        refine GoOps.q rfl rfl (by decide) (q_move e21_30) ?_
        refine join_ops 2 (fun ρ (s23 : Bool) => ρ 33 = .bool s23) h ?_ ?_ <;> clear h
        · intro s23 H25 ρ h hE
          have e26_33 := hE
          refine GoOps.q rfl rfl (by decide) (q_assign e26_33) ?_
          refine GoOps.nil ?_
          exact Go.ret ⟨.inl rfl, _, _, DOk.nil, (resOk1 Try.results3 rfl), ⟨_, rfl, h⟩⟩
        · intro j24 hj24 h
          rcases bor s18 with hc22 | hc22
          · have h := h.1 hc22
            refine call_dst (want_yes rfl rfl rfl hc22) (by decide) body8 (keelsonlaw2_awake_s _ _ h) rfl ?_
            rintro _ H27 ⟨y28, rfl, h⟩
            refine GoOps.q rfl rfl (by decide) (q_pickT (btT rfl hc22) rfl) ?_
            exact hj24 _ _ _ h rfl
          · have h := h.2 hc22
            refine no_dst (want_no rfl rfl rfl hc22) rfl (by decide) ?_
            refine GoOps.q rfl rfl (by decide) (q_pickF (btF rfl hc22) rfl) ?_
            exact hj24 _ _ _ h rfl
      · intro j19 hj19 h
        rcases bor (y12 == y16) with hc17 | hc17
        · have h := h.1 hc17
          refine GoOps.q (want_yes rfl rfl rfl hc17) rfl (by decide) (q_move e7_1) ?_
          refine GoOps.q (want_yes rfl rfl rfl hc17) rfl (by decide) (q_move e7_2) ?_
          refine call_dst (want_yes rfl rfl rfl hc17) (by decide) body12 (crc_More_s _ _ _ _ h) rfl ?_
          rintro _ H29 ⟨y30, rfl, h⟩
          refine GoOps.q (want_yes rfl rfl rfl hc17) rfl (by decide) (q_move e7_1) ?_
          refine GoOps.q (want_yes rfl rfl rfl hc17) rfl (by decide) (q_move e7_2) ?_
          refine call_dst (want_yes rfl rfl rfl hc17) (by decide) body13 (keelsonref1_More_s _ _ _ _ h) rfl ?_
          rintro _ H31 ⟨y32, rfl, h⟩
          refine GoOps.q (want_yes rfl rfl rfl hc17) rfl (by decide) (q_eql rfl rfl) ?_
          refine GoOps.q rfl rfl (by decide) (q_pickT (btT rfl hc17) rfl) ?_
          exact hj19 _ _ _ h rfl
        · have h := h.2 hc17
          refine no_dst (want_no rfl rfl rfl hc17) rfl (by decide) ?_
          refine no_dst (want_no rfl rfl rfl hc17) rfl (by decide) ?_
          refine no_dst (want_no rfl rfl rfl hc17) rfl (by decide) ?_
          refine no_dst (want_no rfl rfl rfl hc17) rfl (by decide) ?_
          refine no_dst (want_no rfl rfl rfl hc17) rfl (by decide) ?_
          refine no_dst (want_no rfl rfl rfl hc17) rfl (by decide) ?_
          refine no_dst (want_no rfl rfl rfl hc17) rfl (by decide) ?_
          refine GoOps.q rfl rfl (by decide) (q_pickF (btF rfl hc17) rfl) ?_
          exact hj19 _ _ _ h rfl
  · intro j5 hj5 h
    rcases bor (!y2) with hc3 | hc3
    · have h := h.1 hc3
      refine no_dst (want_no rfl rfl rfl hc3) rfl (by decide) ?_
      refine no_dst (want_no rfl rfl rfl hc3) rfl (by decide) ?_
      refine no_dst (want_no rfl rfl rfl hc3) rfl (by decide) ?_
      refine GoOps.q rfl rfl (by decide) (q_pickT (btT rfl hc3) rfl) ?_
      exact hj5 _ _ _ h ⟨rfl, rfl, rfl, rfl⟩
    · have h := h.2 hc3
      refine GoOps.q (want_yes rfl rfl rfl hc3) rfl (by decide) (q_move rfl) ?_
      refine GoOps.q (want_yes rfl rfl rfl hc3) rfl (by decide) (q_len Try.underlying23 rfl (ls1 rfl)) ?_
      refine GoOps.q (want_yes rfl rfl rfl hc3) rfl (by decide) (q_gtr rfl rfl) ?_
      refine GoOps.q rfl rfl (by decide) (q_pickF (btF rfl hc3) rfl) ?_
      exact hj5 _ _ _ h ⟨rfl, rfl, rfl, rfl⟩

/-- keelson.keelsonalike.Round -/
def keelsonalike_Round (p0 : Int) (p1 : Int) (H : PH) (Q : Int → PH → Prop) : Prop :=
  keelsonref1_Mod p0 p1 H fun y2 H1 =>
  Q y2 H1

set_option maxRecDepth 20000 in
set_option maxHeartbeats 1000000 in
theorem keelsonalike_Round_s (p0 : Int) (p1 : Int) (H : PH) (Q : Int → PH → Prop) (h : keelsonalike_Round p0 p1 H Q) :
    CallsH Try.prog 14 #[.int .i64 p0, .int .i64 p1] H (fun v H' => ∃ (r0 : Int), v = .int .i64 r0 ∧ Q r0 H') := by
  unfold keelsonalike_Round at h
  refine callsH_of_go Try.func14 rfl Try.ntmps14 (Nat.le_of_ble_eq_true rfl) ?_
  refine Go.seq ?_
  refine Go.region rfl ?_
  refine GoOps.q rfl rfl (by decide) (q_assign rfl) ?_
  refine GoOps.nil ?_
  refine Go.seq ?_
  refine Go.region rfl ?_
  refine GoOps.q rfl rfl (by decide) (q_move rfl) ?_
  refine GoOps.q rfl rfl (by decide) (q_move rfl) ?_
  refine call_dst rfl (by decide) body17 (keelsonref1_Mod_s _ _ _ _ h) rfl ?_
  rintro _ H1 ⟨y2, rfl, h⟩
  refine GoOps.q rfl rfl (by decide) (q_assign rfl) ?_
  refine GoOps.nil ?_
  exact Go.ret ⟨.inl rfl, _, _, DOk.nil, (resOk1 Try.results14 rfl), ⟨_, rfl, h⟩⟩

/-- keelson.keelsonlaw2.CrcParts -/
def keelsonlaw2_CrcParts (p0 : Sl) (p1 : Sl) (H : PH) (Q : Bool → PH → Prop) : Prop :=
  mJoin (fun (s2 : Bool) (H4 : PH) =>
  mIf s2
  (keelsonlaw2_awake H4 fun y8 H7 =>
  Q y8 H7)
  (mNewS H4 (row [Sl.v p0] 23) 1 fun r9 H10 =>
  crc_Sum r9 H10 fun y13 H12 =>
  crc_Sum Sl.nil H12 fun y15 H14 =>
  mLoop (fun (s16 : Int × Int × Sl × Int) (H19 : PH) (again17 : (Int × Int × Sl × Int) → PH → Prop) =>
  mIf (decide (s16.2.2.2 < (p1.len : Int)))
  (mIdx p1 1 s16.2.2.2 fun a21 =>
  mLd (.int .i64) H19 a21 fun x23 =>
  keelsonalike_Round x23 (IntKind.wrap .i64 ((IntKind.wrap .i64 ((p0.len : Int) - s16.2.1)) + 1)) H19 fun y26 H25 =>
  mCut p0 1 s16.2.1 (IntKind.wrap .i64 (s16.2.1 + y26)) fun r28 =>
  crc_More s16.1 r28 H25 fun y30 H29 =>
  mCut p0 1 s16.2.1 (IntKind.wrap .i64 (s16.2.1 + y26)) fun r32 =>
  mNewS H29 (row [Sl.v r32] 23) 1 fun r33 H34 =>
  mApp H34 23 1 24 [.slice none 0 0] s16.2.2.1 r33 fun r36 H37 =>
  again17 (y30, IntKind.wrap .i64 (s16.2.1 + y26), r36, IntKind.wrap .i64 (s16.2.2.2 + 1)) H37)
  (mCut p0 1 s16.2.1 (p0.len : Int) fun r39 =>
  mNewS H19 (row [Sl.v r39] 23) 1 fun r40 H41 =>
  mApp H41 23 1 24 [.slice none 0 0] s16.2.2.1 r40 fun r43 H44 =>
  mCut p0 1 s16.2.1 (p0.len : Int) fun r46 =>
  crc_More s16.1 r46 H44 fun y48 H47 =>
  mJoin (fun (s50 : Bool) (H52 : PH) =>
  mJoin (fun (s55 : Bool) (H57 : PH) =>
  mJoin (fun (s60 : Bool) (H62 : PH) =>
  mJoin (fun (s65 : Bool) (H67 : PH) =>
  Q s65 H67)
  fun j66 =>
  mIf s60
  (keelsonlaw2_awake H62 fun y70 H69 =>
  j66 y70 H69)
  (j66 false H62))
  fun j61 =>
  mIf s55
  (j61 (decide (y13 ≤ 4294967295)) H57)
  (j61 false H57))
  fun j56 =>
  mIf s50
  (j56 (decide (0 ≤ y13)) H52)
  (j56 false H52))
  fun j51 =>
  mIf (y48 == y13)
  (crc_Sum r43 H47 fun y72 H71 =>
  j51 (y72 == y13) H71)
  (j51 false H47)))
  (y15, 0, Sl.nil, 0) H14))
  fun j3 =>
  mIf (decide (1000 < (p0.len : Int)))
  (j3 true H)
  (j3 (decide (20 < (p1.len : Int))) H)

set_option maxRecDepth 20000 in
set_option maxHeartbeats 1000000 in
theorem keelsonlaw2_CrcParts_s (p0 : Sl) (p1 : Sl) (H : PH) (Q : Bool → PH → Prop) (h : keelsonlaw2_CrcParts p0 p1 H Q) :
    CallsH Try.prog 4 #[Sl.v p0, Sl.v p1] H (fun v H' => ∃ (r0 : Bool), v = .bool r0 ∧ Q r0 H') := by
  unfold keelsonlaw2_CrcParts at h
  refine callsH_of_go Try.func4 rfl Try.ntmps4 (Nat.le_of_ble_eq_true rfl) ?_
  refine Go.seq ?_
  refine Go.region rfl ?_
  refine GoOps.q rfl rfl (by decide) (q_assign rfl) ?_
  refine GoOps.nil ?_
  refine Go.seq ?_
  refine Go.seq ?_
  refine Go.region rfl ?_
  refine GoOps.q rfl rfl (by decide) (q_move rfl) ?_
  refine GoOps.q rfl rfl (by decide) (q_len Try.underlying23 rfl (ls1 rfl)) ?_
  refine GoOps.q rfl rfl (by decide) (q_gtr rfl rfl) ?_
  refine GoOps.q rfl rfl (by decide) (q_move rfl) ?_
  refine join_ops 4 (fun ρ (s2 : Bool) => ρ 0 = Sl.v p0 ∧ ρ 1 = Sl.v p1 ∧ ρ 18 = .bool s2) h ?_ ?_ <;> clear h
  · intro s2 H4 ρ h hE
    obtain ⟨e5_0, e5_1, e5_18⟩ := hE
    refine GoOps.nil ?_
    rcases bor s2 with hc6 | hc6
    · have h := h.1 hc6
      refine Go.condT (btT e5_18 hc6) ?_
      refine Go.seq ?_
      refine Go.region rfl ?_
      refine call_dst rfl (by decide) body8 (keelsonlaw2_awake_s _ _ h) rfl ?_
      rintro _ H7 ⟨y8, rfl, h⟩
      refine GoOps.q rfl rfl (by decide) (q_assign rfl) ?_
      refine GoOps.nil ?_
      exact Go.ret ⟨.inl rfl, _, _, DOk.nil, (resOk1 Try.results4 rfl), ⟨_, rfl, h⟩⟩
    · have h := h.2 hc6
      refine Go.condF (btF e5_18 hc6) ?_
      refine Go.skip ?_
      refine Go.seq ?_
      refine Go.region rfl ?_
      refine GoOps.q rfl rfl (by decide) (q_move e5_0) ?_
      refine op_dst rfl rfl (by decide) (do_bs (ps := [(0, Sl.v p0)]) (zs := [.slice none 0 0]) (cs := [Sl.v p0]) slice22 zero23 rfl rfl (by decide) (by decide) rfl rfl fun r9 H10 hb11 => ?_) 
      have h := h r9 H10 hb11
      refine call_dst rfl (by decide) body9 (crc_Sum_s _ _ _ h) rfl ?_
      rintro _ H12 ⟨y13, rfl, h⟩
      refine GoOps.q rfl rfl (by decide) (q_assign rfl) ?_
      refine GoOps.nil ?_
      refine Go.seq ?_
      refine Go.region rfl ?_
      refine call_dst rfl (by decide) body9 (crc_Sum_s _ _ _ h) rfl ?_
      rintro _ H14 ⟨y15, rfl, h⟩
      refine GoOps.q rfl rfl (by decide) (q_assign rfl) ?_
      refine GoOps.q rfl rfl (by decide) (q_assign rfl) ?_
      refine GoOps.nil ?_
      refine Go.seq ?_
      refine Go.region rfl ?_
      refine GoOps.q rfl rfl (by decide) (q_assign rfl) ?_
      refine GoOps.nil ?_
      refine Go.seq ?_
      refine Go.seq ?_
      refine Go.region rfl ?_
      refine GoOps.q rfl rfl (by decide) (q_assign rfl) ?_
      refine GoOps.nil ?_
      refine Go.block ?_
      refine loop_go (fun ρ (s16 : Int × Int × Sl × Int) => ρ 0 = Sl.v p0 ∧ ρ 1 = Sl.v p1 ∧ ρ 5 = .int .i64 y13 ∧ ρ 6 = .int .i64 s16.1 ∧ ρ 7 = .int .i64 s16.2.1 ∧ ρ 8 = Sl.v s16.2.2.1 ∧ ρ 9 = .int .i64 s16.2.2.2) h ⟨e5_0, e5_1, rfl, rfl, rfl, rfl, rfl⟩ ?_
      clear h
      intro ρ s16 H19 again17 hE h hagain17
      obtain ⟨e18_0, e18_1, e18_5, e18_6, e18_7, e18_8, e18_9⟩ := hE
      refine Go.seq ?_
      refine Go.seq ?_
      refine Go.region rfl ?_
      refine GoOps.q rfl rfl (by decide) (q_move e18_9) ?_
      refine GoOps.q rfl rfl (by decide) (q_move e18_1) ?_
      refine GoOps.q rfl rfl (by decide) (q_len Try.underlying31 rfl (ls1 rfl)) ?_
      refine GoOps.q rfl rfl (by decide) (q_lss rfl rfl) ?_
      refine GoOps.nil ?_
      rcases bor (decide (s16.2.2.2 < (p1.len : Int))) with hc20 | hc20
      · have h := h.1 hc20
        refine Go.condT (btT rfl hc20) ?_
        refine Go.skip ?_
        refine Go.seq ?_
        refine Go.block ?_
        refine Go.seq ?_
        refine Go.region rfl ?_
        refine GoOps.q rfl rfl (by decide) (q_move e18_7) ?_
        refine GoOps.q rfl rfl (by decide) (q_move e18_1) ?_
        refine GoOps.q rfl rfl (by decide) (q_move e18_9) ?_
        obtain ⟨a21, ha22, h⟩ := h
        refine GoOps.q rfl rfl (by decide) (q_idx slice31 ha22 rfl rfl) ?_
        obtain ⟨x23, hx24, h⟩ := h
        refine GoOps.q rfl rfl (by decide) (q_load scalar3 rfl hx24) ?_
        refine GoOps.q rfl rfl (by decide) (q_move e18_0) ?_
        refine GoOps.q rfl rfl (by decide) (q_len Try.underlying23 rfl (ls1 rfl)) ?_
        refine GoOps.q rfl rfl (by decide) (q_move e18_7) ?_
        refine GoOps.q rfl rfl (by decide) (q_sub rfl rfl) ?_
        refine GoOps.q rfl rfl (by decide) (q_add rfl rfl) ?_
        refine call_dst rfl (by decide) body14 (keelsonalike_Round_s _ _ _ _ h) rfl ?_
        rintro _ H25 ⟨y26, rfl, h⟩
        refine GoOps.q rfl rfl (by decide) (q_add rfl rfl) ?_
        refine GoOps.q rfl rfl (by decide) (q_assign rfl) ?_
        refine GoOps.nil ?_
        refine Go.seq ?_
        refine Go.region rfl ?_
        refine GoOps.q rfl rfl (by decide) (q_move e18_6) ?_
        refine GoOps.q rfl rfl (by decide) (q_move e18_0) ?_
        refine GoOps.q rfl rfl (by decide) (q_move e18_7) ?_
        refine GoOps.q rfl rfl (by decide) (q_move rfl) ?_
        obtain ⟨r28, hm27, h⟩ := h
        refine GoOps.q rfl rfl (by decide) (q_cut slice23 hm27 rfl ⟨_, rfl⟩ ⟨_, rfl⟩) ?_
        refine call_dst rfl (by decide) body12 (crc_More_s _ _ _ _ h) rfl ?_
        rintro _ H29 ⟨y30, rfl, h⟩
        refine GoOps.q rfl rfl (by decide) (q_assign rfl) ?_
        refine GoOps.nil ?_
        refine Go.seq ?_
        refine Go.region rfl ?_
        refine GoOps.q rfl rfl (by decide) (q_move e18_8) ?_
        refine GoOps.q rfl rfl (by decide) (q_move e18_0) ?_
        refine GoOps.q rfl rfl (by decide) (q_move e18_7) ?_
        refine GoOps.q rfl rfl (by decide) (q_move rfl) ?_
        obtain ⟨r32, hm31, h⟩ := h
        refine GoOps.q rfl rfl (by decide) (q_cut slice23 hm31 rfl ⟨_, rfl⟩ ⟨_, rfl⟩) ?_
        refine op_dst rfl rfl (by decide) (do_bs (ps := [(0, Sl.v r32)]) (zs := [.slice none 0 0]) (cs := [Sl.v r32]) slice22 zero23 rfl rfl (by decide) (by decide) rfl rfl fun r33 H34 hb35 => ?_) 
        have h := h r33 H34 hb35
        refine op_dst rfl rfl (by decide) (do_append (zs := [.slice none 0 0]) slice22 bytes23 (by decide) zero23 rfl rfl (by decide) rfl rfl Try.underlying22 rfl h fun r36 H37 h => ?_) 
        refine GoOps.q rfl rfl (by decide) (q_assign rfl) ?_
        refine GoOps.nil ?_
        refine Go.region rfl ?_
        refine GoOps.q rfl rfl (by decide) (q_move rfl) ?_
        refine GoOps.q rfl rfl (by decide) (q_assign rfl) ?_
        refine GoOps.nil ?_
        refine Go.inBlock ?_
        refine Go.region rfl ?_
        refine GoOps.q rfl rfl (by decide) (q_move e18_9) ?_
        refine GoOps.q rfl rfl (by decide) (q_add rfl rfl) ?_
        refine GoOps.q rfl rfl (by decide) (q_assign rfl) ?_
        refine GoOps.nil ?_
        exact hagain17 _ _ _ h ⟨e18_0, e18_1, e18_5, rfl, rfl, rfl, rfl⟩
      · have h := h.2 hc20
        refine Go.condF (btF rfl hc20) ?_
        refine Go.exit rfl ?_
        refine Go.seq ?_
        refine Go.region rfl ?_
        refine GoOps.q rfl rfl (by decide) (q_move e18_8) ?_
        refine GoOps.q rfl rfl (by decide) (q_move e18_0) ?_
        refine GoOps.q rfl rfl (by decide) (q_move e18_7) ?_
        obtain ⟨r39, hm38, h⟩ := h
        refine GoOps.q rfl rfl (by decide) (q_cut slice23 hm38 rfl ⟨_, rfl⟩ rfl) ?_
        refine op_dst rfl rfl (by decide) (do_bs (ps := [(0, Sl.v r39)]) (zs := [.slice none 0 0]) (cs := [Sl.v r39]) slice22 zero23 rfl rfl (by decide) (by decide) rfl rfl fun r40 H41 hb42 => ?_) 
        have h := h r40 H41 hb42
        refine op_dst rfl rfl (by decide) (do_append (zs := [.slice none 0 0]) slice22 bytes23 (by decide) zero23 rfl rfl (by decide) rfl rfl Try.underlying22 rfl h fun r43 H44 h => ?_) 
        refine GoOps.q rfl rfl (by decide) (q_assign rfl) ?_
        refine GoOps.nil ?_
        refine Go.seq ?_
        refine Go.region rfl ?_
        refine GoOps.q rfl rfl (by decide) (q_move e18_6) ?_
        refine GoOps.q rfl rfl (by decide) (q_move e18_0) ?_
        refine GoOps.q rfl rfl (by decide) (q_move e18_7) ?_
        obtain ⟨r46, hm45, h⟩ := h
        refine GoOps.q rfl rfl (by decide) (q_cut slice23 hm45 rfl ⟨_, rfl⟩ rfl) ?_
        refine call_dst rfl (by decide) body12 (crc_More_s _ _ _ _ h) rfl ?_
        rintro _ H47 ⟨y48, rfl, h⟩
        refine GoOps.q rfl rfl (by decide) (q_move e18_5) ?_
        refine GoOps.q rfl rfl (by decide) (q_eql rfl rfl) ?_
        refine GoOps.q rfl rfl (by decide) (q_move rfl) ?_
        refine join_ops 5 (fun ρ (s50 : Bool) => ρ 5 = .int .i64 y13 ∧ ρ 74 = .bool s50) h ?_ ?_ <;> clear h
        · intro s50 H52 ρ h hE
          obtain ⟨e53_5, e53_74⟩ := hE
          refine GoOps.q rfl rfl (by decide) (q_move e53_74) ?_
          refine join_ops 3 (fun ρ (s55 : Bool) => ρ 5 = .int .i64 y13 ∧ ρ 78 = .bool s55) h ?_ ?_ <;> clear h
          · intro s55 H57 ρ h hE
            obtain ⟨e58_5, e58_78⟩ := hE
            refine GoOps.q rfl rfl (by decide) (q_move e58_78) ?_
            refine join_ops 3 (fun ρ (s60 : Bool) => ρ 82 = .bool s60) h ?_ ?_ <;> clear h
            · intro s60 H62 ρ h hE
              have e63_82 := hE
              refine GoOps.q rfl rfl (by decide) (q_move e63_82) ?_
              refine join_ops 2 (fun ρ (s65 : Bool) => ρ 85 = .bool s65) h ?_ ?_ <;> clear h
              · intro s65 H67 ρ h hE
                have e68_85 := hE
                refine GoOps.q rfl rfl (by decide) (q_assign e68_85) ?_
                refine GoOps.nil ?_
                exact Go.ret ⟨.inl rfl, _, _, DOk.nil, (resOk1 Try.results4 rfl), ⟨_, rfl, h⟩⟩
              · intro j66 hj66 h
                rcases bor s60 with hc64 | hc64
                · have h := h.1 hc64
                  refine call_dst (want_yes rfl rfl rfl hc64) (by decide) body8 (keelsonlaw2_awake_s _ _ h) rfl ?_
                  rintro _ H69 ⟨y70, rfl, h⟩
                  refine GoOps.q rfl rfl (by decide) (q_pickT (btT rfl hc64) rfl) ?_
                  exact hj66 _ _ _ h rfl
                · have h := h.2 hc64
                  refine no_dst (want_no rfl rfl rfl hc64) rfl (by decide) ?_
                  refine GoOps.q rfl rfl (by decide) (q_pickF (btF rfl hc64) rfl) ?_
                  exact hj66 _ _ _ h rfl
            · intro j61 hj61 h
              rcases bor s55 with hc59 | hc59
              · have h := h.1 hc59
                refine GoOps.q (want_yes rfl rfl rfl hc59) rfl (by decide) (q_move e58_5) ?_
                refine GoOps.q (want_yes rfl rfl rfl hc59) rfl (by decide) (q_leq rfl rfl) ?_
                refine GoOps.q rfl rfl (by decide) (q_pickT (btT rfl hc59) rfl) ?_
                exact hj61 _ _ _ h rfl
              · have h := h.2 hc59
                refine no_dst (want_no rfl rfl rfl hc59) rfl (by decide) ?_
                refine no_dst (want_no rfl rfl rfl hc59) rfl (by decide) ?_
                refine GoOps.q rfl rfl (by decide) (q_pickF (btF rfl hc59) rfl) ?_
                exact hj61 _ _ _ h rfl
          · intro j56 hj56 h
            rcases bor s50 with hc54 | hc54
            · have h := h.1 hc54
              refine GoOps.q (want_yes rfl rfl rfl hc54) rfl (by decide) (q_move e53_5) ?_
              refine GoOps.q (want_yes rfl rfl rfl hc54) rfl (by decide) (q_geq rfl rfl) ?_
              refine GoOps.q rfl rfl (by decide) (q_pickT (btT rfl hc54) rfl) ?_
              exact hj56 _ _ _ h ⟨e53_5, rfl⟩
            · have h := h.2 hc54
              refine no_dst (want_no rfl rfl rfl hc54) rfl (by decide) ?_
              refine no_dst (want_no rfl rfl rfl hc54) rfl (by decide) ?_
              refine GoOps.q rfl rfl (by decide) (q_pickF (btF rfl hc54) rfl) ?_
              exact hj56 _ _ _ h ⟨e53_5, rfl⟩
        · intro j51 hj51 h
          rcases bor (y48 == y13) with hc49 | hc49
          · have h := h.1 hc49
            refine GoOps.q (want_yes rfl rfl rfl hc49) rfl (by decide) (q_move rfl) ?_
            refine call_dst (want_yes rfl rfl rfl hc49) (by decide) body9 (crc_Sum_s _ _ _ h) rfl ?_
            rintro _ H71 ⟨y72, rfl, h⟩
            refine GoOps.q (want_yes rfl rfl rfl hc49) rfl (by decide) (q_move e18_5) ?_
            refine GoOps.q (want_yes rfl rfl rfl hc49) rfl (by decide) (q_eql rfl rfl) ?_
            refine GoOps.q rfl rfl (by decide) (q_pickT (btT rfl hc49) rfl) ?_
            exact hj51 _ _ _ h ⟨e18_5, rfl⟩
          · have h := h.2 hc49
            refine no_dst (want_no rfl rfl rfl hc49) rfl (by decide) ?_
            refine no_dst (want_no rfl rfl rfl hc49) rfl (by decide) ?_
            refine no_dst (want_no rfl rfl rfl hc49) rfl (by decide) ?_
            refine no_dst (want_no rfl rfl rfl hc49) rfl (by decide) ?_
            refine GoOps.q rfl rfl (by decide) (q_pickF (btF rfl hc49) rfl) ?_
            exact hj51 _ _ _ h ⟨e18_5, rfl⟩
  · intro j3 hj3 h
    rcases bor (decide (1000 < (p0.len : Int))) with hc1 | hc1
    · have h := h.1 hc1
      refine no_dst (want_no rfl rfl rfl hc1) rfl (by decide) ?_
      refine no_dst (want_no rfl rfl rfl hc1) rfl (by decide) ?_
      refine no_dst (want_no rfl rfl rfl hc1) rfl (by decide) ?_
      refine GoOps.q rfl rfl (by decide) (q_pickT (btT rfl hc1) rfl) ?_
      exact hj3 _ _ _ h ⟨rfl, rfl, rfl⟩
    · have h := h.2 hc1
      refine GoOps.q (want_yes rfl rfl rfl hc1) rfl (by decide) (q_move rfl) ?_
      refine GoOps.q (want_yes rfl rfl rfl hc1) rfl (by decide) (q_len Try.underlying31 rfl (ls1 rfl)) ?_
      refine GoOps.q (want_yes rfl rfl rfl hc1) rfl (by decide) (q_gtr rfl rfl) ?_
      refine GoOps.q rfl rfl (by decide) (q_pickF (btF rfl hc1) rfl) ?_
      exact hj3 _ _ _ h ⟨rfl, rfl, rfl⟩

/-- keelson.keelsonref1.Part -/
def keelsonref1_Part (p0 : Sl) (p1 : Int) (p2 : Int) (H : PH) (Q : Sl → PH → Prop) : Prop :=
  mMk H 5 1 [.int .u8 0] (IntKind.wrap .i64 (p2 - p1)) (IntKind.wrap .i64 (p2 - p1)) fun r1 H2 =>
  mCut p0 1 p1 p2 fun r6 =>
  mCopy H2 1 r1 r6 fun x7 H8 =>
  Q r1 H8

set_option maxRecDepth 20000 in
set_option maxHeartbeats 1000000 in
theorem keelsonref1_Part_s (p0 : Sl) (p1 : Int) (p2 : Int) (H : PH) (Q : Sl → PH → Prop) (h : keelsonref1_Part p0 p1 p2 H Q) :
    CallsH Try.prog 18 #[Sl.v p0, .int .i64 p1, .int .i64 p2] H (fun v H' => ∃ (r0 : Sl), v = Sl.v r0 ∧ Q r0 H') := by
  unfold keelsonref1_Part at h
  refine callsH_of_go Try.func18 rfl Try.ntmps18 (Nat.le_of_ble_eq_true rfl) ?_
  refine Go.seq ?_
  refine Go.region rfl ?_
  refine GoOps.q rfl rfl (by decide) (q_assign rfl) ?_
  refine GoOps.nil ?_
  refine Go.seq ?_
  refine Go.region rfl ?_
  refine GoOps.q rfl rfl (by decide) (q_move rfl) ?_
  refine GoOps.q rfl rfl (by decide) (q_move rfl) ?_
  refine GoOps.q rfl rfl (by decide) (q_sub rfl rfl) ?_
  obtain ⟨hm4, h⟩ := h
  refine op_dst rfl rfl (by decide) (do_mk (zs := [.int .u8 0]) slice23 bytes5 (by decide) zero5 rfl rfl (by decide) rfl rfl hm4 fun r1 H2 hb3 => ?_) 
  have h := h r1 H2 hb3
  refine GoOps.q rfl rfl (by decide) (q_assign rfl) ?_
  refine GoOps.nil ?_
  refine Go.seq ?_
  refine Go.region rfl ?_
  refine GoOps.q rfl rfl (by decide) (q_move rfl) ?_
  refine GoOps.q rfl rfl (by decide) (q_move rfl) ?_
  refine GoOps.q rfl rfl (by decide) (q_move rfl) ?_
  refine GoOps.q rfl rfl (by decide) (q_move rfl) ?_
  obtain ⟨r6, hm5, h⟩ := h
  refine GoOps.q rfl rfl (by decide) (q_cut slice23 hm5 rfl ⟨_, rfl⟩ ⟨_, rfl⟩) ?_
  refine op_dst rfl rfl (by decide) (do_copy slice23 rfl rfl h fun x7 H8 h => ?_) 
  refine GoOps.nil ?_
  refine Go.seq ?_
  refine Go.region rfl ?_
  refine GoOps.q rfl rfl (by decide) (q_move rfl) ?_
  refine GoOps.q rfl rfl (by decide) (q_assign rfl) ?_
  refine GoOps.nil ?_
  exact Go.ret ⟨.inl rfl, _, _, DOk.nil, (resOk1 Try.results18 rfl), ⟨_, rfl, h⟩⟩

/-- keelson.keelsonalike.Turned -/
def keelsonalike_Turned (p0 : Sl) (p1 : Int) (p2 : Int) (p3 : Int) (H : PH) (Q : Sl → Bool → PH → Prop) : Prop :=
  keelsonref1_Part p0 0 (p0.len : Int) H fun y2 H1 =>
  mJoin (fun (s4 : Bool) (H6 : PH) =>
  mIf s4
  (Q y2 false H6)
  (keelsonalike_Round p2 (IntKind.wrap .i64 (8 * p1)) H6 fun y10 H9 =>
  mLoop (fun (s11 : Bool × Int) (H14 : PH) (again12 : (Bool × Int) → PH → Prop) =>
  mIf (decide (s11.2 < 32))
  (mJoin (fun (s16 : Bool) (H18 : PH) =>
  again12 (s16, IntKind.wrap .i64 (s11.2 + 1)) H18)
  fun j17 =>
  mGe s11.2 <|
  mJoin (fun (s22 : Bool) (H24 : PH) =>
  mIf s22
  (mIdx y2 1 (IntKind.wrap .i64 (Int.tdiv (IntKind.wrap .i64 (y10 + s11.2)) 8)) fun a27 =>
  mLd (.int .u8) H24 a27 fun x29 =>
  mGe (Int.tmod (IntKind.wrap .i64 (y10 + s11.2)) 8) <|
  mIdx y2 1 (IntKind.wrap .i64 (Int.tdiv (IntKind.wrap .i64 (y10 + s11.2)) 8)) fun a32 =>
  mSt H24 a32 ([.int .u8 (ixor .u8 x29 (ishl .u8 1 (Int.tmod (IntKind.wrap .i64 (y10 + s11.2)) 8)))]) fun H34 =>
  j17 true H34)
  (j17 s11.1 H24))
  fun j23 =>
  mIf ((iand .u32 (ishr .u32 p3 s11.2) 1) == 1)
  (j23 (decide ((IntKind.wrap .i64 (y10 + s11.2)) < (IntKind.wrap .i64 (8 * p1)))) H14)
  (j23 false H14))
  (Q y2 s11.1 H14))
  (false, 0) H9))
  fun j5 =>
  mIf (decide (p1 < 1))
  (j5 true H1)
  (j5 (decide ((p0.len : Int) < p1)) H1)

set_option maxRecDepth 20000 in
set_option maxHeartbeats 1000000 in
theorem keelsonalike_Turned_s (p0 : Sl) (p1 : Int) (p2 : Int) (p3 : Int) (H : PH) (Q : Sl → Bool → PH → Prop) (h : keelsonalike_Turned p0 p1 p2 p3 H Q) :
    CallsH Try.prog 15 #[Sl.v p0, .int .i64 p1, .int .i64 p2, .int .u32 p3] H (fun v H' => ∃ (r0 : Sl) (r1 : Bool), v = .tuple #[Sl.v r0, .bool r1] ∧ Q r0 r1 H') := by
  unfold keelsonalike_Turned at h
  refine callsH_of_go Try.func15 rfl Try.ntmps15 (Nat.le_of_ble_eq_true rfl) ?_
  refine Go.seq ?_
  refine Go.region rfl ?_
  refine GoOps.q rfl rfl (by decide) (q_assign rfl) ?_
  refine GoOps.q rfl rfl (by decide) (q_assign rfl) ?_
  refine GoOps.nil ?_
  refine Go.seq ?_
  refine Go.region rfl ?_
  refine GoOps.q rfl rfl (by decide) (q_move rfl) ?_
  refine GoOps.q rfl rfl (by decide) (q_move rfl) ?_
  refine GoOps.q rfl rfl (by decide) (q_len Try.underlying23 rfl (ls1 rfl)) ?_
  refine call_dst rfl (by decide) body18 (keelsonref1_Part_s _ _ _ _ _ h) rfl ?_
  rintro _ H1 ⟨y2, rfl, h⟩
  refine GoOps.q rfl rfl (by decide) (q_assign rfl) ?_
  refine GoOps.nil ?_
  refine Go.seq ?_
  refine Go.seq ?_
  refine Go.region rfl ?_
  refine GoOps.q rfl rfl (by decide) (q_move rfl) ?_
  refine GoOps.q rfl rfl (by decide) (q_lss rfl rfl) ?_
  refine GoOps.q rfl rfl (by decide) (q_move rfl) ?_
  refine join_ops 5 (fun ρ (s4 : Bool) => ρ 1 = .int .i64 p1 ∧ ρ 2 = .int .i64 p2 ∧ ρ 3 = .int .u32 p3 ∧ ρ 10 = Sl.v y2 ∧ ρ 25 = .bool s4) h ?_ ?_ <;> clear h
  · intro s4 H6 ρ h hE
    obtain ⟨e7_1, e7_2, e7_3, e7_10, e7_25⟩ := hE
    refine GoOps.nil ?_
    rcases bor s4 with hc8 | hc8
    · have h := h.1 hc8
      refine Go.condT (btT e7_25 hc8) ?_
      refine Go.seq ?_
      refine Go.region rfl ?_
      refine GoOps.q rfl rfl (by decide) (q_move e7_10) ?_
      refine GoOps.q rfl rfl (by decide) (q_assign rfl) ?_
      refine GoOps.q rfl rfl (by decide) (q_assign rfl) ?_
      refine GoOps.nil ?_
      exact Go.ret ⟨.inl rfl, _, _, DOk.nil, (resOk2 Try.results15 rfl rfl), ⟨_, _, rfl, h⟩⟩
    · have h := h.2 hc8
      refine Go.condF (btF e7_25 hc8) ?_
      refine Go.skip ?_
      refine Go.seq ?_
      refine Go.region rfl ?_
      refine GoOps.q rfl rfl (by decide) (q_move e7_2) ?_
      refine GoOps.q rfl rfl (by decide) (q_move e7_1) ?_
      refine GoOps.q rfl rfl (by decide) (q_mul rfl rfl) ?_
      refine call_dst rfl (by decide) body14 (keelsonalike_Round_s _ _ _ _ h) rfl ?_
      rintro _ H9 ⟨y10, rfl, h⟩
      refine GoOps.q rfl rfl (by decide) (q_assign rfl) ?_
      refine GoOps.nil ?_
      refine Go.seq ?_
      refine Go.region rfl ?_
      refine GoOps.q rfl rfl (by decide) (q_assign rfl) ?_
      refine GoOps.nil ?_
      refine Go.seq ?_
      refine Go.seq ?_
      refine Go.region rfl ?_
      refine GoOps.q rfl rfl (by decide) (q_assign rfl) ?_
      refine GoOps.nil ?_
      refine Go.block ?_
      refine loop_go (fun ρ (s11 : Bool × Int) => ρ 1 = .int .i64 p1 ∧ ρ 3 = .int .u32 p3 ∧ ρ 10 = Sl.v y2 ∧ ρ 11 = .int .i64 y10 ∧ ρ 12 = .bool s11.1 ∧ ρ 13 = .int .i64 s11.2) h ⟨e7_1, e7_3, e7_10, rfl, rfl, rfl⟩ ?_
      clear h
      intro ρ s11 H14 again12 hE h hagain12
      obtain ⟨e13_1, e13_3, e13_10, e13_11, e13_12, e13_13⟩ := hE
      refine Go.seq ?_
      refine Go.seq ?_
      refine Go.region rfl ?_
      refine GoOps.q rfl rfl (by decide) (q_move e13_13) ?_
      refine GoOps.q rfl rfl (by decide) (q_lss rfl rfl) ?_
      refine GoOps.nil ?_
      rcases bor (decide (s11.2 < 32)) with hc15 | hc15
      · have h := h.1 hc15
        refine Go.condT (btT rfl hc15) ?_
        refine Go.skip ?_
        refine Go.seq ?_
        refine join_go 1 (fun ρ (s16 : Bool) => ρ 1 = .int .i64 p1 ∧ ρ 3 = .int .u32 p3 ∧ ρ 10 = Sl.v y2 ∧ ρ 11 = .int .i64 y10 ∧ ρ 12 = .bool s16 ∧ ρ 13 = .int .i64 s11.2) h ?_ ?_ <;> clear h
        · intro s16 H18 ρ h hE
          obtain ⟨e19_1, e19_3, e19_10, e19_11, e19_12, e19_13⟩ := hE
          refine Go.region rfl ?_
          refine GoOps.q rfl rfl (by decide) (q_move e19_13) ?_
          refine GoOps.q rfl rfl (by decide) (q_add rfl rfl) ?_
          refine GoOps.q rfl rfl (by decide) (q_assign rfl) ?_
          refine GoOps.nil ?_
          exact hagain12 _ _ _ h ⟨e19_1, e19_3, e19_10, e19_11, e19_12, rfl⟩
        · intro j17 hj17 h
          refine Go.block ?_
          refine Go.seq ?_
          refine Go.region rfl ?_
          refine GoOps.q rfl rfl (by decide) (q_move e13_3) ?_
          refine GoOps.q rfl rfl (by decide) (q_move e13_13) ?_
          obtain ⟨hn20, h⟩ := h
          refine GoOps.q rfl rfl (by decide) (q_shr hn20 rfl rfl) ?_
          refine GoOps.q rfl rfl (by decide) (q_and rfl rfl) ?_
          refine GoOps.q rfl rfl (by decide) (q_eql rfl rfl) ?_
          refine GoOps.q rfl rfl (by decide) (q_move rfl) ?_
          refine join_ops 7 (fun ρ (s22 : Bool) => ρ 1 = .int .i64 p1 ∧ ρ 3 = .int .u32 p3 ∧ ρ 10 = Sl.v y2 ∧ ρ 11 = .int .i64 y10 ∧ ρ 12 = .bool s11.1 ∧ ρ 13 = .int .i64 s11.2 ∧ ρ 47 = .bool s22) h ?_ ?_ <;> clear h
          · intro s22 H24 ρ h hE
            obtain ⟨e25_1, e25_3, e25_10, e25_11, e25_12, e25_13, e25_47⟩ := hE
            refine GoOps.nil ?_
            rcases bor s22 with hc26 | hc26
            · have h := h.1 hc26
              refine Go.condT (btT e25_47 hc26) ?_
              refine Go.seq ?_
              refine Go.draw mixed ?_
              refine plan_pure (i := 0) (d := 48) (S2 := 1) rfl (by decide +kernel) rfl (q_move e25_10) ?_
              refine plan_pure (i := 1) (d := 49) (S2 := 3) rfl (by decide +kernel) rfl (q_move e25_11) ?_
              refine plan_pure (i := 2) (d := 50) (S2 := 7) rfl (by decide +kernel) rfl (q_move e25_13) ?_
              refine plan_pure (i := 3) (d := 51) (S2 := 15) rfl (by decide +kernel) rfl (q_add rfl rfl) ?_
              refine plan_pure (i := 4) (d := 52) (S2 := 31) rfl (by decide +kernel) rfl (q_quo (by decide) rfl rfl) ?_
              refine plan_pure (i := 5) (d := 53) (S2 := 63) rfl (by decide +kernel) rfl (q_move e25_10) ?_
              refine plan_pure (i := 6) (d := 54) (S2 := 127) rfl (by decide +kernel) rfl (q_move e25_11) ?_
              refine plan_pure (i := 7) (d := 55) (S2 := 255) rfl (by decide +kernel) rfl (q_move e25_13) ?_
              refine plan_pure (i := 8) (d := 56) (S2 := 511) rfl (by decide +kernel) rfl (q_add rfl rfl) ?_
              refine plan_pure (i := 9) (d := 57) (S2 := 1023) rfl (by decide +kernel) rfl (q_quo (by decide) rfl rfl) ?_
              obtain ⟨a27, ha28, h⟩ := h
              refine plan_pure (i := 10) (d := 58) (S2 := 2047) rfl (by decide +kernel) rfl (q_idx slice23 ha28 rfl rfl) ?_
              obtain ⟨x29, hx30, h⟩ := h
              refine plan_load (i := 11) (d := 59) (S2 := 4095) rfl (by decide +kernel) rfl (q_load scalar5 rfl hx30) ?_
              refine plan_pure (i := 12) (d := 60) (S2 := 8191) rfl (by decide +kernel) rfl (q_move e25_11) ?_
              refine plan_pure (i := 13) (d := 61) (S2 := 16383) rfl (by decide +kernel) rfl (q_move e25_13) ?_
              refine plan_pure (i := 14) (d := 62) (S2 := 32767) rfl (by decide +kernel) rfl (q_add rfl rfl) ?_
              refine plan_pure (i := 15) (d := 63) (S2 := 65535) rfl (by decide +kernel) rfl (q_rem (by decide) rfl rfl) ?_
              obtain ⟨hn31, h⟩ := h
              refine plan_pure (i := 16) (d := 64) (S2 := 131071) rfl (by decide +kernel) rfl (q_shl hn31 rfl rfl) ?_
              refine plan_pure (i := 17) (d := 65) (S2 := 262143) rfl (by decide +kernel) rfl (q_xor rfl rfl) ?_
              obtain ⟨a32, ha33, h⟩ := h
              refine plan_pure (i := 18) (d := 66) (S2 := 524287) rfl (by decide +kernel) rfl (q_idx slice23 ha33 rfl rfl) ?_
              refine plan_one (j := 19) (S2 := 1048575) (by decide +kernel) rfl (by decide) rfl ?_
              obtain ⟨q35b, q35o, q35c, q35e, hq35a, hq35b, hq35l, hq35v, h⟩ := h
              refine do_store (vs := [.int .u8 (ixor .u8 x29 (ishl .u8 1 (Int.tmod (IntKind.wrap .i64 (y10 + s11.2)) 8)))]) size5 (pta rfl hq35a) rfl rfl rfl hq35v hq35b hq35l ?_
              refine ⟨⟨.inl ⟨[19], by decide +kernel, rfl⟩, trivial⟩, ?_⟩
              refine plan_done (by decide +kernel) ?_
              refine Go.region rfl ?_
              refine GoOps.q rfl rfl (by decide) (q_assign rfl) ?_
              refine GoOps.nil ?_
              refine Go.inBlock ?_
              exact hj17 _ _ _ h ⟨e25_1, e25_3, e25_10, e25_11, rfl, e25_13⟩
            · have h := h.2 hc26
              refine Go.condF (btF e25_47 hc26) ?_
              refine Go.skip ?_
              refine Go.inBlock ?_
              exact hj17 _ _ _ h ⟨e25_1, e25_3, e25_10, e25_11, e25_12, e25_13⟩
          · intro j23 hj23 h
            rcases bor ((iand .u32 (ishr .u32 p3 s11.2) 1) == 1) with hc21 | hc21
            · have h := h.1 hc21
              refine GoOps.q (want_yes rfl rfl rfl hc21) rfl (by decide) (q_move e13_11) ?_
              refine GoOps.q (want_yes rfl rfl rfl hc21) rfl (by decide) (q_move e13_13) ?_
              refine GoOps.q (want_yes rfl rfl rfl hc21) rfl (by decide) (q_add rfl rfl) ?_
              refine GoOps.q (want_yes rfl rfl rfl hc21) rfl (by decide) (q_move e13_1) ?_
              refine GoOps.q (want_yes rfl rfl rfl hc21) rfl (by decide) (q_mul rfl rfl) ?_
              refine GoOps.q (want_yes rfl rfl rfl hc21) rfl (by decide) (q_lss rfl rfl) ?_
              refine GoOps.q rfl rfl (by decide) (q_pickT (btT rfl hc21) rfl) ?_
              exact hj23 _ _ _ h ⟨e13_1, e13_3, e13_10, e13_11, e13_12, e13_13, rfl⟩
            · have h := h.2 hc21
              refine no_dst (want_no rfl rfl rfl hc21) rfl (by decide) ?_
              refine no_dst (want_no rfl rfl rfl hc21) rfl (by decide) ?_
              refine no_dst (want_no rfl rfl rfl hc21) rfl (by decide) ?_
              refine no_dst (want_no rfl rfl rfl hc21) rfl (by decide) ?_
              refine no_dst (want_no rfl rfl rfl hc21) rfl (by decide) ?_
              refine no_dst (want_no rfl rfl rfl hc21) rfl (by decide) ?_
              refine GoOps.q rfl rfl (by decide) (q_pickF (btF rfl hc21) rfl) ?_
              exact hj23 _ _ _ h ⟨e13_1, e13_3, e13_10, e13_11, e13_12, e13_13, rfl⟩
      · have h := h.2 hc15
        refine Go.condF (btF rfl hc15) ?_
        refine Go.exit rfl ?_
        refine Go.seq ?_
        refine Go.region rfl ?_
        refine GoOps.q rfl rfl (by decide) (q_move e13_10) ?_
        refine GoOps.q rfl rfl (by decide) (q_move e13_12) ?_
        refine GoOps.q rfl rfl (by decide) (q_assign rfl) ?_
        refine GoOps.q rfl rfl (by decide) (q_assign rfl) ?_
        refine GoOps.nil ?_
        exact Go.ret ⟨.inl rfl, _, _, DOk.nil, (resOk2 Try.results15 rfl rfl), ⟨_, _, rfl, h⟩⟩
  · intro j5 hj5 h
    rcases bor (decide (p1 < 1)) with hc3 | hc3
    · have h := h.1 hc3
      refine no_dst (want_no rfl rfl rfl hc3) rfl (by decide) ?_
      refine no_dst (want_no rfl rfl rfl hc3) rfl (by decide) ?_
      refine no_dst (want_no rfl rfl rfl hc3) rfl (by decide) ?_
      refine no_dst (want_no rfl rfl rfl hc3) rfl (by decide) ?_
      refine GoOps.q rfl rfl (by decide) (q_pickT (btT rfl hc3) rfl) ?_
      exact hj5 _ _ _ h ⟨rfl, rfl, rfl, rfl, rfl⟩
    · have h := h.2 hc3
      refine GoOps.q (want_yes rfl rfl rfl hc3) rfl (by decide) (q_move rfl) ?_
      refine GoOps.q (want_yes rfl rfl rfl hc3) rfl (by decide) (q_move rfl) ?_
      refine GoOps.q (want_yes rfl rfl rfl hc3) rfl (by decide) (q_len Try.underlying23 rfl (ls1 rfl)) ?_
      refine GoOps.q (want_yes rfl rfl rfl hc3) rfl (by decide) (q_gtr rfl rfl) ?_
      refine GoOps.q rfl rfl (by decide) (q_pickF (btF rfl hc3) rfl) ?_
      exact hj5 _ _ _ h ⟨rfl, rfl, rfl, rfl, rfl⟩

/-- keelson.keelsonlaw2.CrcTurned -/
def keelsonlaw2_CrcTurned (p0 : Sl) (p1 : Int) (p2 : Int) (H : PH) (Q : Bool → PH → Prop) : Prop :=
  mJoin (fun (s2 : Bool) (H4 : PH) =>
  mIf s2
  (keelsonlaw2_awake H4 fun y8 H7 =>
  Q y8 H7)
  (keelsonalike_Turned p0 (p0.len : Int) p1 p2 H4 fun y10 y11 H9 =>
  mNewS H9 (row [Sl.v y10] 23) 1 fun r12 H13 =>
  crc_Sum r12 H13 fun y16 H15 =>
  mNewS H15 (row [Sl.v p0] 23) 1 fun r17 H18 =>
  crc_Sum r17 H18 fun y21 H20 =>
  mJoin (fun (s23 : Bool) (H25 : PH) =>
  Q s23 H25)
  fun j24 =>
  mIf ((y16 != y21) == y11)
  (keelsonlaw2_awake H20 fun y28 H27 =>
  j24 y28 H27)
  (j24 false H20)))
  fun j3 =>
  mIf (decide ((p0.len : Int) < 1))
  (j3 true H)
  (j3 (decide (1000 < (p0.len : Int))) H)

set_option maxRecDepth 20000 in
set_option maxHeartbeats 1000000 in
theorem keelsonlaw2_CrcTurned_s (p0 : Sl) (p1 : Int) (p2 : Int) (H : PH) (Q : Bool → PH → Prop) (h : keelsonlaw2_CrcTurned p0 p1 p2 H Q) :
    CallsH Try.prog 5 #[Sl.v p0, .int .i64 p1, .int .u32 p2] H (fun v H' => ∃ (r0 : Bool), v = .bool r0 ∧ Q r0 H') := by
  unfold keelsonlaw2_CrcTurned at h
  refine callsH_of_go Try.func5 rfl Try.ntmps5 (Nat.le_of_ble_eq_true rfl) ?_
  refine Go.seq ?_
  refine Go.region rfl ?_
  refine GoOps.q rfl rfl (by decide) (q_assign rfl) ?_
  refine GoOps.nil ?_
  refine Go.seq ?_
  refine Go.seq ?_
  refine Go.region rfl ?_
  refine GoOps.q rfl rfl (by decide) (q_move rfl) ?_
  refine GoOps.q rfl rfl (by decide) (q_len Try.underlying23 rfl (ls1 rfl)) ?_
  refine GoOps.q rfl rfl (by decide) (q_lss rfl rfl) ?_
  refine GoOps.q rfl rfl (by decide) (q_move rfl) ?_
  refine join_ops 4 (fun ρ (s2 : Bool) => ρ 0 = Sl.v p0 ∧ ρ 1 = .int .i64 p1 ∧ ρ 2 = .int .u32 p2 ∧ ρ 16 = .bool s2) h ?_ ?_ <;> clear h
  · intro s2 H4 ρ h hE
    obtain ⟨e5_0, e5_1, e5_2, e5_16⟩ := hE
    refine GoOps.nil ?_
    rcases bor s2 with hc6 | hc6
    · have h := h.1 hc6
      refine Go.condT (btT e5_16 hc6) ?_
      refine Go.seq ?_
      refine Go.region rfl ?_
      refine call_dst rfl (by decide) body8 (keelsonlaw2_awake_s _ _ h) rfl ?_
      rintro _ H7 ⟨y8, rfl, h⟩
      refine GoOps.q rfl rfl (by decide) (q_assign rfl) ?_
      refine GoOps.nil ?_
      exact Go.ret ⟨.inl rfl, _, _, DOk.nil, (resOk1 Try.results5 rfl), ⟨_, rfl, h⟩⟩
    · have h := h.2 hc6
      refine Go.condF (btF e5_16 hc6) ?_
      refine Go.skip ?_
      refine Go.seq ?_
      refine Go.region rfl ?_
      refine GoOps.q rfl rfl (by decide) (q_move e5_0) ?_
      refine GoOps.q rfl rfl (by decide) (q_move e5_0) ?_
      refine GoOps.q rfl rfl (by decide) (q_len Try.underlying23 rfl (ls1 rfl)) ?_
      refine GoOps.q rfl rfl (by decide) (q_move e5_1) ?_
      refine GoOps.q rfl rfl (by decide) (q_move e5_2) ?_
      refine call_dst rfl (by decide) body15 (keelsonalike_Turned_s _ _ _ _ _ _ h) rfl ?_
      rintro _ H9 ⟨y10, y11, rfl, h⟩
      refine GoOps.q rfl rfl (by decide) (q_move rfl) ?_
      refine GoOps.q rfl rfl (by decide) (q_extract rfl rfl) ?_
      refine GoOps.q rfl rfl (by decide) (q_extract rfl rfl) ?_
      refine GoOps.q rfl rfl (by decide) (q_assign rfl) ?_
      refine GoOps.q rfl rfl (by decide) (q_assign rfl) ?_
      refine GoOps.nil ?_
      refine Go.seq ?_
      refine Go.region rfl ?_
      refine GoOps.q rfl rfl (by decide) (q_move rfl) ?_
      refine op_dst rfl rfl (by decide) (do_bs (ps := [(0, Sl.v y10)]) (zs := [.slice none 0 0]) (cs := [Sl.v y10]) slice22 zero23 rfl rfl (by decide) (by decide) rfl rfl fun r12 H13 hb14 => ?_) 
      have h := h r12 H13 hb14
      refine call_dst rfl (by decide) body9 (crc_Sum_s _ _ _ h) rfl ?_
      rintro _ H15 ⟨y16, rfl, h⟩
      refine GoOps.q rfl rfl (by decide) (q_move e5_0) ?_
      refine op_dst rfl rfl (by decide) (do_bs (ps := [(0, Sl.v p0)]) (zs := [.slice none 0 0]) (cs := [Sl.v p0]) slice22 zero23 rfl rfl (by decide) (by decide) rfl rfl fun r17 H18 hb19 => ?_) 
      have h := h r17 H18 hb19
      refine call_dst rfl (by decide) body9 (crc_Sum_s _ _ _ h) rfl ?_
      rintro _ H20 ⟨y21, rfl, h⟩
      refine GoOps.q rfl rfl (by decide) (q_neq rfl rfl) ?_
      refine GoOps.q rfl rfl (by decide) (q_move rfl) ?_
      refine GoOps.q rfl rfl (by decide) (q_eqlB Try.underlying4 rfl rfl) ?_
      refine GoOps.q rfl rfl (by decide) (q_move rfl) ?_
      refine join_ops 2 (fun ρ (s23 : Bool) => ρ 38 = .bool s23) h ?_ ?_ <;> clear h
      · intro s23 H25 ρ h hE
        have e26_38 := hE
        refine GoOps.q rfl rfl (by decide) (q_assign e26_38) ?_
        refine GoOps.nil ?_
        exact Go.ret ⟨.inl rfl, _, _, DOk.nil, (resOk1 Try.results5 rfl), ⟨_, rfl, h⟩⟩
      · intro j24 hj24 h
        rcases bor ((y16 != y21) == y11) with hc22 | hc22
        · have h := h.1 hc22
          refine call_dst (want_yes rfl rfl rfl hc22) (by decide) body8 (keelsonlaw2_awake_s _ _ h) rfl ?_
          rintro _ H27 ⟨y28, rfl, h⟩
          refine GoOps.q rfl rfl (by decide) (q_pickT (btT rfl hc22) rfl) ?_
          exact hj24 _ _ _ h rfl
        · have h := h.2 hc22
          refine no_dst (want_no rfl rfl rfl hc22) rfl (by decide) ?_
          refine GoOps.q rfl rfl (by decide) (q_pickF (btF rfl hc22) rfl) ?_
          exact hj24 _ _ _ h rfl
  · intro j3 hj3 h
    rcases bor (decide ((p0.len : Int) < 1)) with hc1 | hc1
    · have h := h.1 hc1
      refine no_dst (want_no rfl rfl rfl hc1) rfl (by decide) ?_
      refine no_dst (want_no rfl rfl rfl hc1) rfl (by decide) ?_
      refine no_dst (want_no rfl rfl rfl hc1) rfl (by decide) ?_
      refine GoOps.q rfl rfl (by decide) (q_pickT (btT rfl hc1) rfl) ?_
      exact hj3 _ _ _ h ⟨rfl, rfl, rfl, rfl⟩
    · have h := h.2 hc1
      refine GoOps.q (want_yes rfl rfl rfl hc1) rfl (by decide) (q_move rfl) ?_
      refine GoOps.q (want_yes rfl rfl rfl hc1) rfl (by decide) (q_len Try.underlying23 rfl (ls1 rfl)) ?_
      refine GoOps.q (want_yes rfl rfl rfl hc1) rfl (by decide) (q_gtr rfl rfl) ?_
      refine GoOps.q rfl rfl (by decide) (q_pickF (btF rfl hc1) rfl) ?_
      exact hj3 _ _ _ h ⟨rfl, rfl, rfl, rfl⟩

/-- keelson.keelsonlaw2.CrcApart -/
def keelsonlaw2_CrcApart (p0 : Sl) (p1 : Sl) (p2 : Int) (p3 : Int) (H : PH) (Q : Bool → PH → Prop) : Prop :=
  mJoin (fun (s2 : Bool) (H4 : PH) =>
  mJoin (fun (s7 : Bool) (H9 : PH) =>
  mIf s7
  (keelsonlaw2_awake H9 fun y13 H12 =>
  Q y13 H12)
  (keelsonalike_Turned p0 (p0.len : Int) p2 p3 H9 fun y15 y16 H14 =>
  keelsonalike_Turned p1 (p1.len : Int) p2 p3 H14 fun y18 y19 H17 =>
  mNewS H17 (row [Sl.v y15] 23) 1 fun r20 H21 =>
  crc_Sum r20 H21 fun y24 H23 =>
  mNewS H23 (row [Sl.v p0] 23) 1 fun r25 H26 =>
  crc_Sum r25 H26 fun y29 H28 =>
  mNewS H28 (row [Sl.v y18] 23) 1 fun r30 H31 =>
  crc_Sum r30 H31 fun y34 H33 =>
  mNewS H33 (row [Sl.v p1] 23) 1 fun r35 H36 =>
  crc_Sum r35 H36 fun y39 H38 =>
  mJoin (fun (s41 : Bool) (H43 : PH) =>
  Q s41 H43)
  fun j42 =>
  mIf ((ixor .i64 y24 y29) == (ixor .i64 y34 y39))
  (keelsonlaw2_awake H38 fun y46 H45 =>
  j42 y46 H45)
  (j42 false H38)))
  fun j8 =>
  mIf s2
  (j8 true H4)
  (j8 (decide (500 < (p0.len : Int))) H4))
  fun j3 =>
  mIf (decide ((p0.len : Int) < 1))
  (j3 true H)
  (j3 ((p0.len : Int) != (p1.len : Int)) H)

set_option maxRecDepth 20000 in
set_option maxHeartbeats 1000000 in
theorem keelsonlaw2_CrcApart_s (p0 : Sl) (p1 : Sl) (p2 : Int) (p3 : Int) (H : PH) (Q : Bool → PH → Prop) (h : keelsonlaw2_CrcApart p0 p1 p2 p3 H Q) :
    CallsH Try.prog 6 #[Sl.v p0, Sl.v p1, .int .i64 p2, .int .u32 p3] H (fun v H' => ∃ (r0 : Bool), v = .bool r0 ∧ Q r0 H') := by
  unfold keelsonlaw2_CrcApart at h
  refine callsH_of_go Try.func6 rfl Try.ntmps6 (Nat.le_of_ble_eq_true rfl) ?_
  refine Go.seq ?_
  refine Go.region rfl ?_
  refine GoOps.q rfl rfl (by decide) (q_assign rfl) ?_
  refine GoOps.nil ?_
  refine Go.seq ?_
  refine Go.seq ?_
  refine Go.region rfl ?_
  refine GoOps.q rfl rfl (by decide) (q_move rfl) ?_
  refine GoOps.q rfl rfl (by decide) (q_len Try.underlying23 rfl (ls1 rfl)) ?_
  refine GoOps.q rfl rfl (by decide) (q_lss rfl rfl) ?_
  refine GoOps.q rfl rfl (by decide) (q_move rfl) ?_
  refine join_ops 6 (fun ρ (s2 : Bool) => ρ 0 = Sl.v p0 ∧ ρ 1 = Sl.v p1 ∧ ρ 2 = .int .i64 p2 ∧ ρ 3 = .int .u32 p3 ∧ ρ 22 = .bool s2) h ?_ ?_ <;> clear h
  · intro s2 H4 ρ h hE
    obtain ⟨e5_0, e5_1, e5_2, e5_3, e5_22⟩ := hE
    refine GoOps.q rfl rfl (by decide) (q_move e5_22) ?_
    refine join_ops 4 (fun ρ (s7 : Bool) => ρ 0 = Sl.v p0 ∧ ρ 1 = Sl.v p1 ∧ ρ 2 = .int .i64 p2 ∧ ρ 3 = .int .u32 p3 ∧ ρ 27 = .bool s7) h ?_ ?_ <;> clear h
    · intro s7 H9 ρ h hE
      obtain ⟨e10_0, e10_1, e10_2, e10_3, e10_27⟩ := hE
      refine GoOps.nil ?_
      rcases bor s7 with hc11 | hc11
      · have h := h.1 hc11
        refine Go.condT (btT e10_27 hc11) ?_
        refine Go.seq ?_
        refine Go.region rfl ?_
        refine call_dst rfl (by decide) body8 (keelsonlaw2_awake_s _ _ h) rfl ?_
        rintro _ H12 ⟨y13, rfl, h⟩
        refine GoOps.q rfl rfl (by decide) (q_assign rfl) ?_
        refine GoOps.nil ?_
        exact Go.ret ⟨.inl rfl, _, _, DOk.nil, (resOk1 Try.results6 rfl), ⟨_, rfl, h⟩⟩
      · have h := h.2 hc11
        refine Go.condF (btF e10_27 hc11) ?_
        refine Go.skip ?_
        refine Go.seq ?_
        refine Go.region rfl ?_
        refine GoOps.q rfl rfl (by decide) (q_move e10_0) ?_
        refine GoOps.q rfl rfl (by decide) (q_move e10_0) ?_
        refine GoOps.q rfl rfl (by decide) (q_len Try.underlying23 rfl (ls1 rfl)) ?_
        refine GoOps.q rfl rfl (by decide) (q_move e10_2) ?_
        refine GoOps.q rfl rfl (by decide) (q_move e10_3) ?_
        refine call_dst rfl (by decide) body15 (keelsonalike_Turned_s _ _ _ _ _ _ h) rfl ?_
        rintro _ H14 ⟨y15, y16, rfl, h⟩
        refine GoOps.q rfl rfl (by decide) (q_move rfl) ?_
        refine GoOps.q rfl rfl (by decide) (q_extract rfl rfl) ?_
        refine GoOps.q rfl rfl (by decide) (q_extract rfl rfl) ?_
        refine GoOps.q rfl rfl (by decide) (q_assign rfl) ?_
        refine GoOps.q rfl rfl (by decide) (q_assign rfl) ?_
        refine GoOps.nil ?_
        refine Go.seq ?_
        refine Go.region rfl ?_
        refine GoOps.q rfl rfl (by decide) (q_move e10_1) ?_
        refine GoOps.q rfl rfl (by decide) (q_move e10_1) ?_
        refine GoOps.q rfl rfl (by decide) (q_len Try.underlying23 rfl (ls1 rfl)) ?_
        refine GoOps.q rfl rfl (by decide) (q_move e10_2) ?_
        refine GoOps.q rfl rfl (by decide) (q_move e10_3) ?_
        refine call_dst rfl (by decide) body15 (keelsonalike_Turned_s _ _ _ _ _ _ h) rfl ?_
        rintro _ H17 ⟨y18, y19, rfl, h⟩
        refine GoOps.q rfl rfl (by decide) (q_move rfl) ?_
        refine GoOps.q rfl rfl (by decide) (q_extract rfl rfl) ?_
        refine GoOps.q rfl rfl (by decide) (q_extract rfl rfl) ?_
        refine GoOps.q rfl rfl (by decide) (q_assign rfl) ?_
        refine GoOps.q rfl rfl (by decide) (q_assign rfl) ?_
        refine GoOps.nil ?_
        refine Go.seq ?_
        refine Go.region rfl ?_
        refine GoOps.q rfl rfl (by decide) (q_move rfl) ?_
        refine op_dst rfl rfl (by decide) (do_bs (ps := [(0, Sl.v y15)]) (zs := [.slice none 0 0]) (cs := [Sl.v y15]) slice22 zero23 rfl rfl (by decide) (by decide) rfl rfl fun r20 H21 hb22 => ?_) 
        have h := h r20 H21 hb22
        refine call_dst rfl (by decide) body9 (crc_Sum_s _ _ _ h) rfl ?_
        rintro _ H23 ⟨y24, rfl, h⟩
        refine GoOps.q rfl rfl (by decide) (q_move e10_0) ?_
        refine op_dst rfl rfl (by decide) (do_bs (ps := [(0, Sl.v p0)]) (zs := [.slice none 0 0]) (cs := [Sl.v p0]) slice22 zero23 rfl rfl (by decide) (by decide) rfl rfl fun r25 H26 hb27 => ?_) 
        have h := h r25 H26 hb27
        refine call_dst rfl (by decide) body9 (crc_Sum_s _ _ _ h) rfl ?_
        rintro _ H28 ⟨y29, rfl, h⟩
        refine GoOps.q rfl rfl (by decide) (q_xor rfl rfl) ?_
        refine GoOps.q rfl rfl (by decide) (q_move rfl) ?_
        refine op_dst rfl rfl (by decide) (do_bs (ps := [(0, Sl.v y18)]) (zs := [.slice none 0 0]) (cs := [Sl.v y18]) slice22 zero23 rfl rfl (by decide) (by decide) rfl rfl fun r30 H31 hb32 => ?_) 
        have h := h r30 H31 hb32
        refine call_dst rfl (by decide) body9 (crc_Sum_s _ _ _ h) rfl ?_
        rintro _ H33 ⟨y34, rfl, h⟩
        refine GoOps.q rfl rfl (by decide) (q_move e10_1) ?_
        refine op_dst rfl rfl (by decide) (do_bs (ps := [(0, Sl.v p1)]) (zs := [.slice none 0 0]) (cs := [Sl.v p1]) slice22 zero23 rfl rfl (by decide) (by decide) rfl rfl fun r35 H36 hb37 => ?_) 
        have h := h r35 H36 hb37
        refine call_dst rfl (by decide) body9 (crc_Sum_s _ _ _ h) rfl ?_
        rintro _ H38 ⟨y39, rfl, h⟩
        refine GoOps.q rfl rfl (by decide) (q_xor rfl rfl) ?_
        refine GoOps.q rfl rfl (by decide) (q_eql rfl rfl) ?_
        refine GoOps.q rfl rfl (by decide) (q_move rfl) ?_
        refine join_ops 2 (fun ρ (s41 : Bool) => ρ 64 = .bool s41) h ?_ ?_ <;> clear h
        · intro s41 H43 ρ h hE
          have e44_64 := hE
          refine GoOps.q rfl rfl (by decide) (q_assign e44_64) ?_
          refine GoOps.nil ?_
          exact Go.ret ⟨.inl rfl, _, _, DOk.nil, (resOk1 Try.results6 rfl), ⟨_, rfl, h⟩⟩
        · intro j42 hj42 h
          rcases bor ((ixor .i64 y24 y29) == (ixor .i64 y34 y39)) with hc40 | hc40
          · have h := h.1 hc40
            refine call_dst (want_yes rfl rfl rfl hc40) (by decide) body8 (keelsonlaw2_awake_s _ _ h) rfl ?_
            rintro _ H45 ⟨y46, rfl, h⟩
            refine GoOps.q rfl rfl (by decide) (q_pickT (btT rfl hc40) rfl) ?_
            exact hj42 _ _ _ h rfl
          · have h := h.2 hc40
            refine no_dst (want_no rfl rfl rfl hc40) rfl (by decide) ?_
            refine GoOps.q rfl rfl (by decide) (q_pickF (btF rfl hc40) rfl) ?_
            exact hj42 _ _ _ h rfl
    · intro j8 hj8 h
      rcases bor s2 with hc6 | hc6
      · have h := h.1 hc6
        refine no_dst (want_no rfl rfl rfl hc6) rfl (by decide) ?_
        refine no_dst (want_no rfl rfl rfl hc6) rfl (by decide) ?_
        refine no_dst (want_no rfl rfl rfl hc6) rfl (by decide) ?_
        refine GoOps.q rfl rfl (by decide) (q_pickT (btT rfl hc6) rfl) ?_
        exact hj8 _ _ _ h ⟨e5_0, e5_1, e5_2, e5_3, rfl⟩
      · have h := h.2 hc6
        refine GoOps.q (want_yes rfl rfl rfl hc6) rfl (by decide) (q_move e5_0) ?_
        refine GoOps.q (want_yes rfl rfl rfl hc6) rfl (by decide) (q_len Try.underlying23 rfl (ls1 rfl)) ?_
        refine GoOps.q (want_yes rfl rfl rfl hc6) rfl (by decide) (q_gtr rfl rfl) ?_
        refine GoOps.q rfl rfl (by decide) (q_pickF (btF rfl hc6) rfl) ?_
        exact hj8 _ _ _ h ⟨e5_0, e5_1, e5_2, e5_3, rfl⟩
  · intro j3 hj3 h
    rcases bor (decide ((p0.len : Int) < 1)) with hc1 | hc1
    · have h := h.1 hc1
      refine no_dst (want_no rfl rfl rfl hc1) rfl (by decide) ?_
      refine no_dst (want_no rfl rfl rfl hc1) rfl (by decide) ?_
      refine no_dst (want_no rfl rfl rfl hc1) rfl (by decide) ?_
      refine no_dst (want_no rfl rfl rfl hc1) rfl (by decide) ?_
      refine no_dst (want_no rfl rfl rfl hc1) rfl (by decide) ?_
      refine GoOps.q rfl rfl (by decide) (q_pickT (btT rfl hc1) rfl) ?_
      exact hj3 _ _ _ h ⟨rfl, rfl, rfl, rfl, rfl⟩
    · have h := h.2 hc1
      refine GoOps.q (want_yes rfl rfl rfl hc1) rfl (by decide) (q_move rfl) ?_
      refine GoOps.q (want_yes rfl rfl rfl hc1) rfl (by decide) (q_len Try.underlying23 rfl (ls1 rfl)) ?_
      refine GoOps.q (want_yes rfl rfl rfl hc1) rfl (by decide) (q_move rfl) ?_
      refine GoOps.q (want_yes rfl rfl rfl hc1) rfl (by decide) (q_len Try.underlying23 rfl (ls1 rfl)) ?_
      refine GoOps.q (want_yes rfl rfl rfl hc1) rfl (by decide) (q_neq rfl rfl) ?_
      refine GoOps.q rfl rfl (by decide) (q_pickF (btF rfl hc1) rfl) ?_
      exact hj3 _ _ _ h ⟨rfl, rfl, rfl, rfl, rfl⟩


end Go.Proofs.Ytnmanfkohkebfaa

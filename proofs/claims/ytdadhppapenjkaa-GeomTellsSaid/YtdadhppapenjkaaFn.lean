import Derived.Test.YtdadhppapenjkaaFnp1
set_option linter.unusedVariables false
set_option linter.unusedSimpArgs false
namespace Go.Proofs.Ytdadhppapenjkaa
open Go Go.Kx Go.Proofs
/-- keelson.keelsonref1.Up -/
def keelsonref1_Up (p0 : Int) (p1 : Int) (H : PH) (Q : Int → PH → Prop) : Prop :=
  mNe p1 <|
  Q (IntKind.wrap .i64 (Int.tdiv (IntKind.wrap .i64 ((IntKind.wrap .i64 (p0 + p1)) - 1)) p1)) H

set_option maxRecDepth 20000 in
set_option maxHeartbeats 1000000 in
theorem keelsonref1_Up_s (p0 : Int) (p1 : Int) (H : PH) (Q : Int → PH → Prop) (h : keelsonref1_Up p0 p1 H Q) :
    CallsH Try.prog 40 #[.int .i64 p0, .int .i64 p1] H (fun v H' => ∃ (r0 : Int), v = .int .i64 r0 ∧ Q r0 H') := by
  unfold keelsonref1_Up at h
  refine callsH_of_go Try.func40 rfl Try.ntmps40 (Nat.le_of_ble_eq_true rfl) ?_
  refine Go.seq ?_
  refine Go.region rfl ?_
  refine GoOps.q (v := .int .i64 0) rfl rfl (by decide) (q_assign rfl) ?_
  refine GoOps.nil ?_
  refine Go.seq ?_
  refine Go.region rfl ?_
  refine GoOps.q (v := .int .i64 p0) rfl rfl (by decide) (q_move rfl) ?_
  refine GoOps.q (v := .int .i64 p1) rfl rfl (by decide) (q_move rfl) ?_
  refine GoOps.q (v := .int .i64 (IntKind.wrap .i64 (p0 + p1))) rfl rfl (by decide) (q_add rfl rfl) ?_
  refine GoOps.q (v := .int .i64 (IntKind.wrap .i64 ((IntKind.wrap .i64 (p0 + p1)) - 1))) rfl rfl (by decide) (q_sub rfl rfl) ?_
  refine GoOps.q (v := .int .i64 p1) rfl rfl (by decide) (q_move rfl) ?_
  obtain ⟨hn1, h⟩ := h
  refine GoOps.q (v := .int .i64 (IntKind.wrap .i64 (Int.tdiv (IntKind.wrap .i64 ((IntKind.wrap .i64 (p0 + p1)) - 1)) p1))) rfl rfl (by decide) (q_quo hn1 rfl rfl) ?_
  refine GoOps.q (v := .int .i64 (IntKind.wrap .i64 (Int.tdiv (IntKind.wrap .i64 ((IntKind.wrap .i64 (p0 + p1)) - 1)) p1))) rfl rfl (by decide) (q_assign rfl) ?_
  refine GoOps.nil ?_
  exact Go.ret ⟨.inl rfl, _, _, DOk.nil, (resOk1 Try.results40 rfl), ⟨_, rfl, h⟩⟩

/-- keelson.keelsonref1.RegionLen -/
def keelsonref1_RegionLen (p0 : (Int × Int × Int)) (H : PH) (Q : Int → PH → Prop) : Prop :=
  mNew H (row [.int .i64 p0.1, .int .i64 p0.2.1, .int .i64 p0.2.2] 25) fun a1 H2 =>
  mLd (.int .i64) H2 (a1.add 1) fun x4 =>
  keelsonref1_Up (IntKind.wrap .i64 (43 + (IntKind.wrap .i64 (5 * x4)))) 64 H2 fun y7 H6 =>
  Q y7 H6

set_option maxRecDepth 20000 in
set_option maxHeartbeats 1000000 in
theorem keelsonref1_RegionLen_s (p0 : (Int × Int × Int)) (H : PH) (Q : Int → PH → Prop) (h : keelsonref1_RegionLen p0 H Q) :
    CallsH Try.prog 26 #[.agg ([.int .i64 p0.1, .int .i64 p0.2.1, .int .i64 p0.2.2] : List Value).toArray] H (fun v H' => ∃ (r0 : Int), v = .int .i64 r0 ∧ Q r0 H') := by
  unfold keelsonref1_RegionLen at h
  refine callsH_of_go Try.func26 rfl Try.ntmps26 (Nat.le_of_ble_eq_true rfl) ?_
  refine Go.seq ?_
  refine Go.region rfl ?_
  refine op_dst rfl rfl (by decide) (do_newBox (cs := [.int .i64 p0.1, .int .i64 p0.2.1, .int .i64 p0.2.2]) rfl rfl fun a1 H2 hb3 => ?_) 
  have h := h a1 H2 hb3
  refine GoOps.q (v := .int .i64 0) rfl rfl (by decide) (q_assign rfl) ?_
  refine GoOps.nil ?_
  refine Go.seq ?_
  refine Go.region rfl ?_
  refine GoOps.q (v := .pointer (some (a1.add 1))) rfl rfl (by decide) (q_fieldAddr foff25_1 rfl) ?_
  obtain ⟨x4, hx5, h⟩ := h
  refine GoOps.q (v := .int .i64 x4) rfl rfl (by decide) (q_load scalar3 rfl hx5) ?_
  refine GoOps.q (v := .int .i64 (IntKind.wrap .i64 (5 * x4))) rfl rfl (by decide) (q_mul rfl rfl) ?_
  refine GoOps.q (v := .int .i64 (IntKind.wrap .i64 (43 + (IntKind.wrap .i64 (5 * x4))))) rfl rfl (by decide) (q_add rfl rfl) ?_
  refine call_dst rfl (by decide) body40 (keelsonref1_Up_s _ _ _ _ h) rfl ?_
  rintro _ H6 ⟨y7, rfl, h⟩
  refine GoOps.q (v := .int .i64 y7) rfl rfl (by decide) (q_assign rfl) ?_
  refine GoOps.nil ?_
  exact Go.ret ⟨.inl rfl, _, _, DOk.nil, (resOk1 Try.results26 rfl), ⟨_, rfl, h⟩⟩

/-- keelson.keelsonref1.Pages -/
def keelsonref1_Pages (p0 : (Int × Int × Int)) (H : PH) (Q : Int → PH → Prop) : Prop :=
  mNew H (row [.int .i64 p0.1, .int .i64 p0.2.1, .int .i64 p0.2.2] 25) fun a1 H2 =>
  mLd (.int .i64) H2 (a1.add 0) fun x4 =>
  keelsonref1_Up x4 15 H2 fun y7 H6 =>
  Q y7 H6

set_option maxRecDepth 20000 in
set_option maxHeartbeats 1000000 in
theorem keelsonref1_Pages_s (p0 : (Int × Int × Int)) (H : PH) (Q : Int → PH → Prop) (h : keelsonref1_Pages p0 H Q) :
    CallsH Try.prog 25 #[.agg ([.int .i64 p0.1, .int .i64 p0.2.1, .int .i64 p0.2.2] : List Value).toArray] H (fun v H' => ∃ (r0 : Int), v = .int .i64 r0 ∧ Q r0 H') := by
  unfold keelsonref1_Pages at h
  refine callsH_of_go Try.func25 rfl Try.ntmps25 (Nat.le_of_ble_eq_true rfl) ?_
  refine Go.seq ?_
  refine Go.region rfl ?_
  refine op_dst rfl rfl (by decide) (do_newBox (cs := [.int .i64 p0.1, .int .i64 p0.2.1, .int .i64 p0.2.2]) rfl rfl fun a1 H2 hb3 => ?_) 
  have h := h a1 H2 hb3
  refine GoOps.q (v := .int .i64 0) rfl rfl (by decide) (q_assign rfl) ?_
  refine GoOps.nil ?_
  refine Go.seq ?_
  refine Go.region rfl ?_
  refine GoOps.q (v := .pointer (some (a1.add 0))) rfl rfl (by decide) (q_fieldAddr foff25_0 rfl) ?_
  obtain ⟨x4, hx5, h⟩ := h
  refine GoOps.q (v := .int .i64 x4) rfl rfl (by decide) (q_load scalar3 rfl hx5) ?_
  refine call_dst rfl (by decide) body40 (keelsonref1_Up_s _ _ _ _ h) rfl ?_
  rintro _ H6 ⟨y7, rfl, h⟩
  refine GoOps.q (v := .int .i64 y7) rfl rfl (by decide) (q_assign rfl) ?_
  refine GoOps.nil ?_
  exact Go.ret ⟨.inl rfl, _, _, DOk.nil, (resOk1 Try.results25 rfl), ⟨_, rfl, h⟩⟩

/-- keelson.keelsonref1.SegAt -/
def keelsonref1_SegAt (p0 : (Int × Int × Int)) (p1 : Int) (H : PH) (Q : Int → PH → Prop) : Prop :=
  mNew H (row [.int .i64 p0.1, .int .i64 p0.2.1, .int .i64 p0.2.2] 25) fun a1 H2 =>
  mLd (.int .i64) H2 (a1.add 1) fun x4 =>
  keelsonref1_Within p1 0 (IntKind.wrap .i64 (x4 - 1)) H2 fun y7 H6 =>
  mIf (!y7)
  (Q (-1) H6)
  (mLdR (fun (x : (Int × Int × Int)) => [.int .i64 x.1, .int .i64 x.2.1, .int .i64 x.2.2]) H6 a1 3 fun x9 =>
  mLdR (fun (x : (Int × Int × Int)) => [.int .i64 x.1, .int .i64 x.2.1, .int .i64 x.2.2]) H6 a1 3 fun x11 =>
  mLd (.int .i64) H6 (a1.add 2) fun x13 =>
  keelsonref1_RegionLen (x9.1, x9.2.1, x9.2.2) H6 fun y16 H15 =>
  mSame H15 (a1.add 2) (.int .i64 x13) <|
  mSameA H15 a1 3 ([.int .i64 x11.1, .int .i64 x11.2.1, .int .i64 x11.2.2]) <|
  keelsonref1_Pages (x11.1, x11.2.1, x11.2.2) H15 fun y20 H19 =>
  mSame H19 (a1.add 2) (.int .i64 x13) <|
  Q (IntKind.wrap .i64 ((IntKind.wrap .i64 ((IntKind.wrap .i64 (2 + (IntKind.wrap .i64 (2 * y16)))) + (IntKind.wrap .i64 (4 * y20)))) + (IntKind.wrap .i64 (p1 * x13)))) H19)

set_option maxRecDepth 20000 in
set_option maxHeartbeats 1000000 in
theorem keelsonref1_SegAt_s (p0 : (Int × Int × Int)) (p1 : Int) (H : PH) (Q : Int → PH → Prop) (h : keelsonref1_SegAt p0 p1 H Q) :
    CallsH Try.prog 31 #[.agg ([.int .i64 p0.1, .int .i64 p0.2.1, .int .i64 p0.2.2] : List Value).toArray, .int .i64 p1] H (fun v H' => ∃ (r0 : Int), v = .int .i64 r0 ∧ Q r0 H') := by
  unfold keelsonref1_SegAt at h
  refine callsH_of_go Try.func31 rfl Try.ntmps31 (Nat.le_of_ble_eq_true rfl) ?_
  refine Go.seq ?_
  refine Go.region rfl ?_
  refine op_dst rfl rfl (by decide) (do_newBox (cs := [.int .i64 p0.1, .int .i64 p0.2.1, .int .i64 p0.2.2]) rfl rfl fun a1 H2 hb3 => ?_) 
  have h := h a1 H2 hb3
  refine GoOps.q (v := .int .i64 0) rfl rfl (by decide) (q_assign rfl) ?_
  refine GoOps.nil ?_
  refine Go.seq ?_
  refine Go.seq ?_
  refine Go.region rfl ?_
  refine GoOps.q (v := .int .i64 p1) rfl rfl (by decide) (q_move rfl) ?_
  refine GoOps.q (v := .pointer (some (a1.add 1))) rfl rfl (by decide) (q_fieldAddr foff25_1 rfl) ?_
  obtain ⟨x4, hx5, h⟩ := h
  refine GoOps.q (v := .int .i64 x4) rfl rfl (by decide) (q_load scalar3 rfl hx5) ?_
  refine GoOps.q (v := .int .i64 (IntKind.wrap .i64 (x4 - 1))) rfl rfl (by decide) (q_sub rfl rfl) ?_
  refine call_dst rfl (by decide) body39 (keelsonref1_Within_s _ _ _ _ _ h) rfl ?_
  rintro _ H6 ⟨y7, rfl, h⟩
  refine GoOps.q (v := .bool (!y7)) rfl rfl (by decide) (q_not rfl) ?_
  refine GoOps.nil ?_
  rcases bor (!y7) with hc8 | hc8
  · have h := h.1 hc8
    refine Go.condT (btT rfl hc8) ?_
    refine Go.seq ?_
    refine Go.region rfl ?_
    refine GoOps.q (v := .int .i64 (-1)) rfl rfl (by decide) (q_assign rfl) ?_
    refine GoOps.nil ?_
    exact Go.ret ⟨.inl rfl, _, _, DOk.nil, (resOk1 Try.results31 rfl), ⟨_, rfl, h⟩⟩
  · have h := h.2 hc8
    refine Go.condF (btF rfl hc8) ?_
    refine Go.skip ?_
    refine Go.seq ?_
    refine Go.draw mixed ?_
    obtain ⟨x9, hx10, h⟩ := h
    refine plan_load (i := 0) (d := 11) (S2 := 1) (v := .agg ([.int .i64 x9.1, .int .i64 x9.2.1, .int .i64 x9.2.2] : List Value).toArray) rfl (by decide +kernel) rfl (q_loadA aggr25 rfl hx10) ?_
    obtain ⟨x11, hx12, h⟩ := h
    refine plan_load (i := 4) (d := 15) (S2 := 17) (v := .agg ([.int .i64 x11.1, .int .i64 x11.2.1, .int .i64 x11.2.2] : List Value).toArray) rfl (by decide +kernel) rfl (q_loadA aggr25 rfl hx12) ?_
    refine plan_pure (i := 8) (d := 19) (S2 := 273) (v := .int .i64 p1) rfl (by decide +kernel) rfl (q_move rfl) ?_
    refine plan_pure (i := 9) (d := 20) (S2 := 785) (v := .pointer (some (a1.add 2))) rfl (by decide +kernel) rfl (q_fieldAddr foff25_2 rfl) ?_
    obtain ⟨x13, hx14, h⟩ := h
    refine plan_load (i := 10) (d := 21) (S2 := 1809) (v := .int .i64 x13) rfl (by decide +kernel) rfl (q_load scalar3 rfl hx14) ?_
    refine plan_pure (i := 11) (d := 22) (S2 := 3857) (v := .int .i64 (IntKind.wrap .i64 (p1 * x13))) rfl (by decide +kernel) rfl (q_mul rfl rfl) ?_
    refine plan_one (j := 1) (S2 := 3859) (by decide +kernel) rfl (by decide) rfl ?_
    refine do_call2 body26 (keelsonref1_RegionLen_s _ _ _ h) rfl ?_
    rintro _ H15 ⟨y16, rfl, h⟩
    obtain ⟨hr17, h⟩ := h
    obtain ⟨hr18, h⟩ := h
    refine ⟨⟨.inr ⟨_, _, rfl, rfl, q_load scalar3 rfl hr17⟩, .inr ⟨_, _, rfl, rfl, q_loadA aggr25 rfl hr18⟩, .inl ⟨[1], by decide +kernel, rfl⟩, trivial⟩, ?_⟩
    refine plan_pure (i := 2) (d := 13) (S2 := 3863) (v := .int .i64 (IntKind.wrap .i64 (2 * y16))) rfl (by decide +kernel) rfl (q_mul rfl rfl) ?_
    refine plan_pure (i := 3) (d := 14) (S2 := 3871) (v := .int .i64 (IntKind.wrap .i64 (2 + (IntKind.wrap .i64 (2 * y16))))) rfl (by decide +kernel) rfl (q_add rfl rfl) ?_
    refine plan_one (j := 5) (S2 := 3903) (by decide +kernel) rfl (by decide) rfl ?_
    refine do_call2 body25 (keelsonref1_Pages_s _ _ _ h) rfl ?_
    rintro _ H19 ⟨y20, rfl, h⟩
    obtain ⟨hr21, h⟩ := h
    refine ⟨⟨.inr ⟨_, _, rfl, rfl, q_load scalar3 rfl hr21⟩, .inl ⟨[5], by decide +kernel, rfl⟩, .inl ⟨[1, 5], by decide +kernel, rfl⟩, trivial⟩, ?_⟩
    refine plan_pure (i := 6) (d := 17) (S2 := 3967) (v := .int .i64 (IntKind.wrap .i64 (4 * y20))) rfl (by decide +kernel) rfl (q_mul rfl rfl) ?_
    refine plan_pure (i := 7) (d := 18) (S2 := 4095) (v := .int .i64 (IntKind.wrap .i64 ((IntKind.wrap .i64 (2 + (IntKind.wrap .i64 (2 * y16)))) + (IntKind.wrap .i64 (4 * y20))))) rfl (by decide +kernel) rfl (q_add rfl rfl) ?_
    refine plan_pure (i := 12) (d := 23) (S2 := 8191) (v := .int .i64 (IntKind.wrap .i64 ((IntKind.wrap .i64 ((IntKind.wrap .i64 (2 + (IntKind.wrap .i64 (2 * y16)))) + (IntKind.wrap .i64 (4 * y20)))) + (IntKind.wrap .i64 (p1 * x13))))) rfl (by decide +kernel) rfl (q_add rfl rfl) ?_
    refine plan_pure (i := 13) (d := 4) (S2 := 16383) (v := .int .i64 (IntKind.wrap .i64 ((IntKind.wrap .i64 ((IntKind.wrap .i64 (2 + (IntKind.wrap .i64 (2 * y16)))) + (IntKind.wrap .i64 (4 * y20)))) + (IntKind.wrap .i64 (p1 * x13))))) rfl (by decide +kernel) rfl (q_assign rfl) ?_
    refine plan_done (by decide +kernel) ?_
    exact Go.ret ⟨.inl rfl, _, _, DOk.nil, (resOk1 Try.results31 rfl), ⟨_, rfl, h⟩⟩

/-- keelson.keelsonref1.Where -/
def keelsonref1_Where (p0 : (Int × Int × Int)) (p1 : Int) (H : PH) (Q : Int → Int → Bool → PH → Prop) : Prop :=
  mNew H (row [.int .i64 p0.1, .int .i64 p0.2.1, .int .i64 p0.2.2] 25) fun a1 H2 =>
  mLdR (fun (x : (Int × Int × Int)) => [.int .i64 x.1, .int .i64 x.2.1, .int .i64 x.2.2]) H2 a1 3 fun x4 =>
  keelsonref1_SegAt (x4.1, x4.2.1, x4.2.2) 0 H2 fun y7 H6 =>
  mLdR (fun (x : (Int × Int × Int)) => [.int .i64 x.1, .int .i64 x.2.1, .int .i64 x.2.2]) H6 a1 3 fun x8 =>
  keelsonref1_SegAt (x8.1, x8.2.1, x8.2.2) 0 H6 fun y11 H10 =>
  mJoin (fun (s13 : Bool) (H15 : PH) =>
  mIf s13
  (Q 0 0 false H15)
  (mLd (.int .i64) H15 (a1.add 2) fun x18 =>
  mNe x18 <|
  mLd (.int .i64) H15 (a1.add 2) fun x21 =>
  mNe x21 <|
  Q (IntKind.wrap .i64 (Int.tdiv (IntKind.wrap .i64 (p1 - y7)) x18)) (Int.tmod (IntKind.wrap .i64 (p1 - y7)) x21) true H15))
  fun j14 =>
  mIf (decide (p1 < y11))
  (j14 true H10)
  (mLd (.int .i64) H10 (a1.add 1) fun x24 =>
  mLd (.int .i64) H10 (a1.add 2) fun x26 =>
  j14 (decide ((IntKind.wrap .i64 (x24 * x26)) ≤ (IntKind.wrap .i64 (p1 - y7)))) H10)

set_option maxRecDepth 20000 in
set_option maxHeartbeats 1000000 in
theorem keelsonref1_Where_s (p0 : (Int × Int × Int)) (p1 : Int) (H : PH) (Q : Int → Int → Bool → PH → Prop) (h : keelsonref1_Where p0 p1 H Q) :
    CallsH Try.prog 24 #[.agg ([.int .i64 p0.1, .int .i64 p0.2.1, .int .i64 p0.2.2] : List Value).toArray, .int .i64 p1] H (fun v H' => ∃ (r0 : Int) (r1 : Int) (r2 : Bool), v = .tuple #[.int .i64 r0, .int .i64 r1, .bool r2] ∧ Q r0 r1 r2 H') := by
  unfold keelsonref1_Where at h
  refine callsH_of_go Try.func24 rfl Try.ntmps24 (Nat.le_of_ble_eq_true rfl) ?_
  refine Go.seq ?_
  refine Go.region rfl ?_
  refine op_dst rfl rfl (by decide) (do_newBox (cs := [.int .i64 p0.1, .int .i64 p0.2.1, .int .i64 p0.2.2]) rfl rfl fun a1 H2 hb3 => ?_) 
  have h := h a1 H2 hb3
  refine GoOps.q (v := .int .i64 0) rfl rfl (by decide) (q_assign rfl) ?_
  refine GoOps.q (v := .int .i64 0) rfl rfl (by decide) (q_assign rfl) ?_
  refine GoOps.q (v := .bool false) rfl rfl (by decide) (q_assign rfl) ?_
  refine GoOps.nil ?_
  refine Go.seq ?_
  refine Go.region rfl ?_
  refine GoOps.q (v := .int .i64 p1) rfl rfl (by decide) (q_move rfl) ?_
  obtain ⟨x4, hx5, h⟩ := h
  refine GoOps.q (v := .agg ([.int .i64 x4.1, .int .i64 x4.2.1, .int .i64 x4.2.2] : List Value).toArray) rfl rfl (by decide) (q_loadA aggr25 rfl hx5) ?_
  refine call_dst rfl (by decide) body31 (keelsonref1_SegAt_s _ _ _ _ h) rfl ?_
  rintro _ H6 ⟨y7, rfl, h⟩
  refine GoOps.q (v := .int .i64 (IntKind.wrap .i64 (p1 - y7))) rfl rfl (by decide) (q_sub rfl rfl) ?_
  refine GoOps.q (v := .int .i64 (IntKind.wrap .i64 (p1 - y7))) rfl rfl (by decide) (q_assign rfl) ?_
  refine GoOps.nil ?_
  refine Go.seq ?_
  refine Go.seq ?_
  refine Go.region rfl ?_
  refine GoOps.q (v := .int .i64 p1) rfl rfl (by decide) (q_move rfl) ?_
  obtain ⟨x8, hx9, h⟩ := h
  refine GoOps.q (v := .agg ([.int .i64 x8.1, .int .i64 x8.2.1, .int .i64 x8.2.2] : List Value).toArray) rfl rfl (by decide) (q_loadA aggr25 rfl hx9) ?_
  refine call_dst rfl (by decide) body31 (keelsonref1_SegAt_s _ _ _ _ h) rfl ?_
  rintro _ H10 ⟨y11, rfl, h⟩
  refine GoOps.q (v := .bool (decide (p1 < y11))) rfl rfl (by decide) (q_lss rfl rfl) ?_
  refine GoOps.q (v := .bool (decide (p1 < y11))) rfl rfl (by decide) (q_move rfl) ?_
  refine join_ops 8 (fun ρ (s13 : Bool) => ρ 2 = .pointer (some a1) ∧ ρ 7 = .int .i64 (IntKind.wrap .i64 (p1 - y7)) ∧ ρ 24 = .bool s13) h ?_ ?_ <;> clear h
  · intro s13 H15 ρ h hE
    obtain ⟨e16_2, e16_7, e16_24⟩ := hE
    refine GoOps.nil ?_
    rcases bor s13 with hc17 | hc17
    · have h := h.1 hc17
      refine Go.condT (btT e16_24 hc17) ?_
      refine Go.seq ?_
      refine Go.region rfl ?_
      refine GoOps.q (v := .int .i64 0) rfl rfl (by decide) (q_assign rfl) ?_
      refine GoOps.q (v := .int .i64 0) rfl rfl (by decide) (q_assign rfl) ?_
      refine GoOps.q (v := .bool false) rfl rfl (by decide) (q_assign rfl) ?_
      refine GoOps.nil ?_
      exact Go.ret ⟨.inl rfl, _, _, DOk.nil, (resOk3 Try.results24 rfl rfl rfl), ⟨_, _, _, rfl, h⟩⟩
    · have h := h.2 hc17
      refine Go.condF (btF e16_24 hc17) ?_
      refine Go.skip ?_
      refine Go.seq ?_
      refine Go.draw mixed ?_
      refine plan_pure (i := 0) (d := 25) (S2 := 1) (v := .int .i64 (IntKind.wrap .i64 (p1 - y7))) rfl (by decide +kernel) rfl (q_move e16_7) ?_
      refine plan_pure (i := 1) (d := 26) (S2 := 3) (v := .pointer (some (a1.add 2))) rfl (by decide +kernel) rfl (q_fieldAddr foff25_2 e16_2) ?_
      obtain ⟨x18, hx19, h⟩ := h
      refine plan_load (i := 2) (d := 27) (S2 := 7) (v := .int .i64 x18) rfl (by decide +kernel) rfl (q_load scalar3 rfl hx19) ?_
      obtain ⟨hn20, h⟩ := h
      refine plan_pure (i := 3) (d := 28) (S2 := 15) (v := .int .i64 (IntKind.wrap .i64 (Int.tdiv (IntKind.wrap .i64 (p1 - y7)) x18))) rfl (by decide +kernel) rfl (q_quo hn20 rfl rfl) ?_
      refine plan_pure (i := 4) (d := 29) (S2 := 31) (v := .int .i64 (IntKind.wrap .i64 (p1 - y7))) rfl (by decide +kernel) rfl (q_move e16_7) ?_
      refine plan_pure (i := 5) (d := 30) (S2 := 63) (v := .pointer (some (a1.add 2))) rfl (by decide +kernel) rfl (q_fieldAddr foff25_2 e16_2) ?_
      obtain ⟨x21, hx22, h⟩ := h
      refine plan_load (i := 6) (d := 31) (S2 := 127) (v := .int .i64 x21) rfl (by decide +kernel) rfl (q_load scalar3 rfl hx22) ?_
      obtain ⟨hn23, h⟩ := h
      refine plan_pure (i := 7) (d := 32) (S2 := 255) (v := .int .i64 (Int.tmod (IntKind.wrap .i64 (p1 - y7)) x21)) rfl (by decide +kernel) rfl (q_rem hn23 rfl rfl) ?_
      refine plan_pure (i := 8) (d := 4) (S2 := 511) (v := .int .i64 (IntKind.wrap .i64 (Int.tdiv (IntKind.wrap .i64 (p1 - y7)) x18))) rfl (by decide +kernel) rfl (q_assign rfl) ?_
      refine plan_pure (i := 9) (d := 5) (S2 := 1023) (v := .int .i64 (Int.tmod (IntKind.wrap .i64 (p1 - y7)) x21)) rfl (by decide +kernel) rfl (q_assign rfl) ?_
      refine plan_pure (i := 10) (d := 6) (S2 := 2047) (v := .bool true) rfl (by decide +kernel) rfl (q_assign rfl) ?_
      refine plan_done (by decide +kernel) ?_
      exact Go.ret ⟨.inl rfl, _, _, DOk.nil, (resOk3 Try.results24 rfl rfl rfl), ⟨_, _, _, rfl, h⟩⟩
  · intro j14 hj14 h
    rcases bor (decide (p1 < y11)) with hc12 | hc12
    · have h := h.1 hc12
      refine no_dst (want_no rfl rfl rfl hc12) rfl (by decide) ?_
      refine no_dst (want_no rfl rfl rfl hc12) rfl (by decide) ?_
      refine no_dst (want_no rfl rfl rfl hc12) rfl (by decide) ?_
      refine no_dst (want_no rfl rfl rfl hc12) rfl (by decide) ?_
      refine no_dst (want_no rfl rfl rfl hc12) rfl (by decide) ?_
      refine no_dst (want_no rfl rfl rfl hc12) rfl (by decide) ?_
      refine no_dst (want_no rfl rfl rfl hc12) rfl (by decide) ?_
      refine GoOps.q (v := .bool true) rfl rfl (by decide) (q_pickT (btT rfl hc12) rfl) ?_
      exact hj14 _ _ _ h ⟨rfl, rfl, rfl⟩
    · have h := h.2 hc12
      refine GoOps.q (v := .int .i64 (IntKind.wrap .i64 (p1 - y7))) (want_yes rfl rfl rfl hc12) rfl (by decide) (q_move rfl) ?_
      refine GoOps.q (v := .pointer (some (a1.add 1))) (want_yes rfl rfl rfl hc12) rfl (by decide) (q_fieldAddr foff25_1 rfl) ?_
      obtain ⟨x24, hx25, h⟩ := h
      refine GoOps.q (v := .int .i64 x24) (want_yes rfl rfl rfl hc12) rfl (by decide) (q_load scalar3 rfl hx25) ?_
      refine GoOps.q (v := .pointer (some (a1.add 2))) (want_yes rfl rfl rfl hc12) rfl (by decide) (q_fieldAddr foff25_2 rfl) ?_
      obtain ⟨x26, hx27, h⟩ := h
      refine GoOps.q (v := .int .i64 x26) (want_yes rfl rfl rfl hc12) rfl (by decide) (q_load scalar3 rfl hx27) ?_
      refine GoOps.q (v := .int .i64 (IntKind.wrap .i64 (x24 * x26))) (want_yes rfl rfl rfl hc12) rfl (by decide) (q_mul rfl rfl) ?_
      refine GoOps.q (v := .bool (decide ((IntKind.wrap .i64 (x24 * x26)) ≤ (IntKind.wrap .i64 (p1 - y7))))) (want_yes rfl rfl rfl hc12) rfl (by decide) (q_geq rfl rfl) ?_
      refine GoOps.q (v := .bool (decide ((IntKind.wrap .i64 (x24 * x26)) ≤ (IntKind.wrap .i64 (p1 - y7))))) rfl rfl (by decide) (q_pickF (btF rfl hc12) rfl) ?_
      exact hj14 _ _ _ h ⟨rfl, rfl, rfl⟩

/-- keelson.keelsonref1.Sectors -/
def keelsonref1_Sectors (p0 : (Int × Int × Int)) (H : PH) (Q : Int → PH → Prop) : Prop :=
  mNew H (row [.int .i64 p0.1, .int .i64 p0.2.1, .int .i64 p0.2.2] 25) fun a1 H2 =>
  mLdR (fun (x : (Int × Int × Int)) => [.int .i64 x.1, .int .i64 x.2.1, .int .i64 x.2.2]) H2 a1 3 fun x4 =>
  mLd (.int .i64) H2 (a1.add 1) fun x6 =>
  mLd (.int .i64) H2 (a1.add 2) fun x8 =>
  keelsonref1_SegAt (x4.1, x4.2.1, x4.2.2) 0 H2 fun y11 H10 =>
  mSame H10 (a1.add 2) (.int .i64 x8) <|
  mSame H10 (a1.add 1) (.int .i64 x6) <|
  Q (IntKind.wrap .i64 (y11 + (IntKind.wrap .i64 (x6 * x8)))) H10

set_option maxRecDepth 20000 in
set_option maxHeartbeats 1000000 in
theorem keelsonref1_Sectors_s (p0 : (Int × Int × Int)) (H : PH) (Q : Int → PH → Prop) (h : keelsonref1_Sectors p0 H Q) :
    CallsH Try.prog 27 #[.agg ([.int .i64 p0.1, .int .i64 p0.2.1, .int .i64 p0.2.2] : List Value).toArray] H (fun v H' => ∃ (r0 : Int), v = .int .i64 r0 ∧ Q r0 H') := by
  unfold keelsonref1_Sectors at h
  refine callsH_of_go Try.func27 rfl Try.ntmps27 (Nat.le_of_ble_eq_true rfl) ?_
  refine Go.seq ?_
  refine Go.region rfl ?_
  refine op_dst rfl rfl (by decide) (do_newBox (cs := [.int .i64 p0.1, .int .i64 p0.2.1, .int .i64 p0.2.2]) rfl rfl fun a1 H2 hb3 => ?_) 
  have h := h a1 H2 hb3
  refine GoOps.q (v := .int .i64 0) rfl rfl (by decide) (q_assign rfl) ?_
  refine GoOps.nil ?_
  refine Go.seq ?_
  refine Go.draw mixed ?_
  obtain ⟨x4, hx5, h⟩ := h
  refine plan_load (i := 0) (d := 3) (S2 := 1) (v := .agg ([.int .i64 x4.1, .int .i64 x4.2.1, .int .i64 x4.2.2] : List Value).toArray) rfl (by decide +kernel) rfl (q_loadA aggr25 rfl hx5) ?_
  refine plan_pure (i := 2) (d := 5) (S2 := 5) (v := .pointer (some (a1.add 1))) rfl (by decide +kernel) rfl (q_fieldAddr foff25_1 rfl) ?_
  obtain ⟨x6, hx7, h⟩ := h
  refine plan_load (i := 3) (d := 6) (S2 := 13) (v := .int .i64 x6) rfl (by decide +kernel) rfl (q_load scalar3 rfl hx7) ?_
  refine plan_pure (i := 4) (d := 7) (S2 := 29) (v := .pointer (some (a1.add 2))) rfl (by decide +kernel) rfl (q_fieldAddr foff25_2 rfl) ?_
  obtain ⟨x8, hx9, h⟩ := h
  refine plan_load (i := 5) (d := 8) (S2 := 61) (v := .int .i64 x8) rfl (by decide +kernel) rfl (q_load scalar3 rfl hx9) ?_
  refine plan_pure (i := 6) (d := 9) (S2 := 125) (v := .int .i64 (IntKind.wrap .i64 (x6 * x8))) rfl (by decide +kernel) rfl (q_mul rfl rfl) ?_
  refine plan_one (j := 1) (S2 := 127) (by decide +kernel) rfl (by decide) rfl ?_
  refine do_call2 body31 (keelsonref1_SegAt_s _ _ _ _ h) rfl ?_
  rintro _ H10 ⟨y11, rfl, h⟩
  obtain ⟨hr12, h⟩ := h
  obtain ⟨hr13, h⟩ := h
  refine ⟨⟨.inr ⟨_, _, rfl, rfl, q_load scalar3 rfl hr12⟩, .inr ⟨_, _, rfl, rfl, q_load scalar3 rfl hr13⟩, .inl ⟨[1], by decide +kernel, rfl⟩, trivial⟩, ?_⟩
  refine plan_pure (i := 7) (d := 10) (S2 := 255) (v := .int .i64 (IntKind.wrap .i64 (y11 + (IntKind.wrap .i64 (x6 * x8))))) rfl (by decide +kernel) rfl (q_add rfl rfl) ?_
  refine plan_pure (i := 8) (d := 2) (S2 := 511) (v := .int .i64 (IntKind.wrap .i64 (y11 + (IntKind.wrap .i64 (x6 * x8))))) rfl (by decide +kernel) rfl (q_assign rfl) ?_
  refine plan_done (by decide +kernel) ?_
  exact Go.ret ⟨.inl rfl, _, _, DOk.nil, (resOk1 Try.results27 rfl), ⟨_, rfl, h⟩⟩

/-- keelson.keelsonref1.SuperAt -/
def keelsonref1_SuperAt (p0 : Int) (H : PH) (Q : Int → PH → Prop) : Prop :=
  keelsonref1_Within p0 0 1 H fun y2 H1 =>
  mIf (!y2)
  (Q (-1) H1)
  (Q p0 H1)

set_option maxRecDepth 20000 in
set_option maxHeartbeats 1000000 in
theorem keelsonref1_SuperAt_s (p0 : Int) (H : PH) (Q : Int → PH → Prop) (h : keelsonref1_SuperAt p0 H Q) :
    CallsH Try.prog 28 #[.int .i64 p0] H (fun v H' => ∃ (r0 : Int), v = .int .i64 r0 ∧ Q r0 H') := by
  unfold keelsonref1_SuperAt at h
  refine callsH_of_go Try.func28 rfl Try.ntmps28 (Nat.le_of_ble_eq_true rfl) ?_
  refine Go.seq ?_
  refine Go.region rfl ?_
  refine GoOps.q (v := .int .i64 0) rfl rfl (by decide) (q_assign rfl) ?_
  refine GoOps.nil ?_
  refine Go.seq ?_
  refine Go.seq ?_
  refine Go.region rfl ?_
  refine GoOps.q (v := .int .i64 p0) rfl rfl (by decide) (q_move rfl) ?_
  refine call_dst rfl (by decide) body39 (keelsonref1_Within_s _ _ _ _ _ h) rfl ?_
  rintro _ H1 ⟨y2, rfl, h⟩
  refine GoOps.q (v := .bool (!y2)) rfl rfl (by decide) (q_not rfl) ?_
  refine GoOps.nil ?_
  rcases bor (!y2) with hc3 | hc3
  · have h := h.1 hc3
    refine Go.condT (btT rfl hc3) ?_
    refine Go.seq ?_
    refine Go.region rfl ?_
    refine GoOps.q (v := .int .i64 (-1)) rfl rfl (by decide) (q_assign rfl) ?_
    refine GoOps.nil ?_
    exact Go.ret ⟨.inl rfl, _, _, DOk.nil, (resOk1 Try.results28 rfl), ⟨_, rfl, h⟩⟩
  · have h := h.2 hc3
    refine Go.condF (btF rfl hc3) ?_
    refine Go.skip ?_
    refine Go.seq ?_
    refine Go.region rfl ?_
    refine GoOps.q (v := .int .i64 p0) rfl rfl (by decide) (q_move rfl) ?_
    refine GoOps.q (v := .int .i64 p0) rfl rfl (by decide) (q_assign rfl) ?_
    refine GoOps.nil ?_
    exact Go.ret ⟨.inl rfl, _, _, DOk.nil, (resOk1 Try.results28 rfl), ⟨_, rfl, h⟩⟩

/-- keelson.keelsonref1.RegionAt -/
def keelsonref1_RegionAt (p0 : (Int × Int × Int)) (p1 : Int) (H : PH) (Q : Int → PH → Prop) : Prop :=
  mNew H (row [.int .i64 p0.1, .int .i64 p0.2.1, .int .i64 p0.2.2] 25) fun a1 H2 =>
  keelsonref1_Within p1 0 1 H2 fun y5 H4 =>
  mIf (!y5)
  (Q (-1) H4)
  (mLdR (fun (x : (Int × Int × Int)) => [.int .i64 x.1, .int .i64 x.2.1, .int .i64 x.2.2]) H4 a1 3 fun x7 =>
  keelsonref1_RegionLen (x7.1, x7.2.1, x7.2.2) H4 fun y10 H9 =>
  Q (IntKind.wrap .i64 (2 + (IntKind.wrap .i64 (p1 * y10)))) H9)

set_option maxRecDepth 20000 in
set_option maxHeartbeats 1000000 in
theorem keelsonref1_RegionAt_s (p0 : (Int × Int × Int)) (p1 : Int) (H : PH) (Q : Int → PH → Prop) (h : keelsonref1_RegionAt p0 p1 H Q) :
    CallsH Try.prog 29 #[.agg ([.int .i64 p0.1, .int .i64 p0.2.1, .int .i64 p0.2.2] : List Value).toArray, .int .i64 p1] H (fun v H' => ∃ (r0 : Int), v = .int .i64 r0 ∧ Q r0 H') := by
  unfold keelsonref1_RegionAt at h
  refine callsH_of_go Try.func29 rfl Try.ntmps29 (Nat.le_of_ble_eq_true rfl) ?_
  refine Go.seq ?_
  refine Go.region rfl ?_
  refine op_dst rfl rfl (by decide) (do_newBox (cs := [.int .i64 p0.1, .int .i64 p0.2.1, .int .i64 p0.2.2]) rfl rfl fun a1 H2 hb3 => ?_) 
  have h := h a1 H2 hb3
  refine GoOps.q (v := .int .i64 0) rfl rfl (by decide) (q_assign rfl) ?_
  refine GoOps.nil ?_
  refine Go.seq ?_
  refine Go.seq ?_
  refine Go.region rfl ?_
  refine GoOps.q (v := .int .i64 p1) rfl rfl (by decide) (q_move rfl) ?_
  refine call_dst rfl (by decide) body39 (keelsonref1_Within_s _ _ _ _ _ h) rfl ?_
  rintro _ H4 ⟨y5, rfl, h⟩
  refine GoOps.q (v := .bool (!y5)) rfl rfl (by decide) (q_not rfl) ?_
  refine GoOps.nil ?_
  rcases bor (!y5) with hc6 | hc6
  · have h := h.1 hc6
    refine Go.condT (btT rfl hc6) ?_
    refine Go.seq ?_
    refine Go.region rfl ?_
    refine GoOps.q (v := .int .i64 (-1)) rfl rfl (by decide) (q_assign rfl) ?_
    refine GoOps.nil ?_
    exact Go.ret ⟨.inl rfl, _, _, DOk.nil, (resOk1 Try.results29 rfl), ⟨_, rfl, h⟩⟩
  · have h := h.2 hc6
    refine Go.condF (btF rfl hc6) ?_
    refine Go.skip ?_
    refine Go.seq ?_
    refine Go.region rfl ?_
    refine GoOps.q (v := .int .i64 p1) rfl rfl (by decide) (q_move rfl) ?_
    obtain ⟨x7, hx8, h⟩ := h
    refine GoOps.q (v := .agg ([.int .i64 x7.1, .int .i64 x7.2.1, .int .i64 x7.2.2] : List Value).toArray) rfl rfl (by decide) (q_loadA aggr25 rfl hx8) ?_
    refine call_dst rfl (by decide) body26 (keelsonref1_RegionLen_s _ _ _ h) rfl ?_
    rintro _ H9 ⟨y10, rfl, h⟩
    refine GoOps.q (v := .int .i64 (IntKind.wrap .i64 (p1 * y10))) rfl rfl (by decide) (q_mul rfl rfl) ?_
    refine GoOps.q (v := .int .i64 (IntKind.wrap .i64 (2 + (IntKind.wrap .i64 (p1 * y10))))) rfl rfl (by decide) (q_add rfl rfl) ?_
    refine GoOps.q (v := .int .i64 (IntKind.wrap .i64 (2 + (IntKind.wrap .i64 (p1 * y10))))) rfl rfl (by decide) (q_assign rfl) ?_
    refine GoOps.nil ?_
    exact Go.ret ⟨.inl rfl, _, _, DOk.nil, (resOk1 Try.results29 rfl), ⟨_, rfl, h⟩⟩

/-- keelson.keelsonref1.PageAt -/
def keelsonref1_PageAt (p0 : (Int × Int × Int)) (p1 : Bool) (p2 : Int) (p3 : Int) (H : PH) (Q : Int → PH → Prop) : Prop :=
  mNew H (row [.int .i64 p0.1, .int .i64 p0.2.1, .int .i64 p0.2.2] 25) fun a1 H2 =>
  keelsonref1_Within p3 0 1 H2 fun y5 H4 =>
  mJoin (fun (s7 : Bool) (H9 : PH) =>
  mIf s7
  (Q (-1) H9)
  (mLdR (fun (x : (Int × Int × Int)) => [.int .i64 x.1, .int .i64 x.2.1, .int .i64 x.2.2]) H9 a1 3 fun x12 =>
  keelsonref1_RegionLen (x12.1, x12.2.1, x12.2.2) H9 fun y15 H14 =>
  mJoin (fun (s16 : Int) (H18 : PH) =>
  Q s16 H18)
  fun j17 =>
  mIf p1
  (mLdR (fun (x : (Int × Int × Int)) => [.int .i64 x.1, .int .i64 x.2.1, .int .i64 x.2.2]) H14 a1 3 fun x21 =>
  keelsonref1_Pages (x21.1, x21.2.1, x21.2.2) H14 fun y24 H23 =>
  j17 (IntKind.wrap .i64 ((IntKind.wrap .i64 ((IntKind.wrap .i64 ((IntKind.wrap .i64 (2 + (IntKind.wrap .i64 (2 * y15)))) + (IntKind.wrap .i64 (2 * p2)))) + p3)) + (IntKind.wrap .i64 (2 * y24)))) H23)
  (j17 (IntKind.wrap .i64 ((IntKind.wrap .i64 ((IntKind.wrap .i64 (2 + (IntKind.wrap .i64 (2 * y15)))) + (IntKind.wrap .i64 (2 * p2)))) + p3)) H14)))
  fun j8 =>
  mIf (!y5)
  (j8 true H4)
  (mLdR (fun (x : (Int × Int × Int)) => [.int .i64 x.1, .int .i64 x.2.1, .int .i64 x.2.2]) H4 a1 3 fun x25 =>
  keelsonref1_Pages (x25.1, x25.2.1, x25.2.2) H4 fun y28 H27 =>
  keelsonref1_Within p2 0 (IntKind.wrap .i64 (y28 - 1)) H27 fun y30 H29 =>
  j8 (!y30) H29)

set_option maxRecDepth 20000 in
set_option maxHeartbeats 1000000 in
theorem keelsonref1_PageAt_s (p0 : (Int × Int × Int)) (p1 : Bool) (p2 : Int) (p3 : Int) (H : PH) (Q : Int → PH → Prop) (h : keelsonref1_PageAt p0 p1 p2 p3 H Q) :
    CallsH Try.prog 30 #[.agg ([.int .i64 p0.1, .int .i64 p0.2.1, .int .i64 p0.2.2] : List Value).toArray, .bool p1, .int .i64 p2, .int .i64 p3] H (fun v H' => ∃ (r0 : Int), v = .int .i64 r0 ∧ Q r0 H') := by
  unfold keelsonref1_PageAt at h
  refine callsH_of_go Try.func30 rfl Try.ntmps30 (Nat.le_of_ble_eq_true rfl) ?_
  refine Go.seq ?_
  refine Go.region rfl ?_
  refine op_dst rfl rfl (by decide) (do_newBox (cs := [.int .i64 p0.1, .int .i64 p0.2.1, .int .i64 p0.2.2]) rfl rfl fun a1 H2 hb3 => ?_) 
  have h := h a1 H2 hb3
  refine GoOps.q (v := .int .i64 0) rfl rfl (by decide) (q_assign rfl) ?_
  refine GoOps.nil ?_
  refine Go.seq ?_
  refine Go.seq ?_
  refine Go.region rfl ?_
  refine GoOps.q (v := .int .i64 p3) rfl rfl (by decide) (q_move rfl) ?_
  refine call_dst rfl (by decide) body39 (keelsonref1_Within_s _ _ _ _ _ h) rfl ?_
  rintro _ H4 ⟨y5, rfl, h⟩
  refine GoOps.q (v := .bool (!y5)) rfl rfl (by decide) (q_not rfl) ?_
  refine GoOps.q (v := .bool (!y5)) rfl rfl (by decide) (q_move rfl) ?_
  refine join_ops 7 (fun ρ (s7 : Bool) => ρ 1 = .bool p1 ∧ ρ 2 = .int .i64 p2 ∧ ρ 3 = .int .i64 p3 ∧ ρ 4 = .pointer (some a1) ∧ ρ 20 = .bool s7) h ?_ ?_ <;> clear h
  · intro s7 H9 ρ h hE
    obtain ⟨e10_1, e10_2, e10_3, e10_4, e10_20⟩ := hE
    refine GoOps.nil ?_
    rcases bor s7 with hc11 | hc11
    · have h := h.1 hc11
      refine Go.condT (btT e10_20 hc11) ?_
      refine Go.seq ?_
      refine Go.region rfl ?_
      refine GoOps.q (v := .int .i64 (-1)) rfl rfl (by decide) (q_assign rfl) ?_
      refine GoOps.nil ?_
      exact Go.ret ⟨.inl rfl, _, _, DOk.nil, (resOk1 Try.results30 rfl), ⟨_, rfl, h⟩⟩
    · have h := h.2 hc11
      refine Go.condF (btF e10_20 hc11) ?_
      refine Go.skip ?_
      refine Go.seq ?_
      refine Go.region rfl ?_
      obtain ⟨x12, hx13, h⟩ := h
      refine GoOps.q (v := .agg ([.int .i64 x12.1, .int .i64 x12.2.1, .int .i64 x12.2.2] : List Value).toArray) rfl rfl (by decide) (q_loadA aggr25 e10_4 hx13) ?_
      refine call_dst rfl (by decide) body26 (keelsonref1_RegionLen_s _ _ _ h) rfl ?_
      rintro _ H14 ⟨y15, rfl, h⟩
      refine GoOps.q (v := .int .i64 (IntKind.wrap .i64 (2 * y15))) rfl rfl (by decide) (q_mul rfl rfl) ?_
      refine GoOps.q (v := .int .i64 (IntKind.wrap .i64 (2 + (IntKind.wrap .i64 (2 * y15))))) rfl rfl (by decide) (q_add rfl rfl) ?_
      refine GoOps.q (v := .int .i64 p2) rfl rfl (by decide) (q_move e10_2) ?_
      refine GoOps.q (v := .int .i64 (IntKind.wrap .i64 (2 * p2))) rfl rfl (by decide) (q_mul rfl rfl) ?_
      refine GoOps.q (v := .int .i64 (IntKind.wrap .i64 ((IntKind.wrap .i64 (2 + (IntKind.wrap .i64 (2 * y15)))) + (IntKind.wrap .i64 (2 * p2))))) rfl rfl (by decide) (q_add rfl rfl) ?_
      refine GoOps.q (v := .int .i64 p3) rfl rfl (by decide) (q_move e10_3) ?_
      refine GoOps.q (v := .int .i64 (IntKind.wrap .i64 ((IntKind.wrap .i64 ((IntKind.wrap .i64 (2 + (IntKind.wrap .i64 (2 * y15)))) + (IntKind.wrap .i64 (2 * p2)))) + p3))) rfl rfl (by decide) (q_add rfl rfl) ?_
      refine GoOps.q (v := .int .i64 (IntKind.wrap .i64 ((IntKind.wrap .i64 ((IntKind.wrap .i64 (2 + (IntKind.wrap .i64 (2 * y15)))) + (IntKind.wrap .i64 (2 * p2)))) + p3))) rfl rfl (by decide) (q_assign rfl) ?_
      refine GoOps.nil ?_
      refine Go.seq ?_
      refine Go.seq ?_
      refine Go.region rfl ?_
      refine GoOps.q (v := .bool p1) rfl rfl (by decide) (q_move e10_1) ?_
      refine GoOps.nil ?_
      refine join_go 1 (fun ρ (s16 : Int) => ρ 9 = .int .i64 s16) h ?_ ?_ <;> clear h
      · intro s16 H18 ρ h hE
        have e19_9 := hE
        refine Go.seq ?_
        refine Go.region rfl ?_
        refine GoOps.q (v := .int .i64 s16) rfl rfl (by decide) (q_move e19_9) ?_
        refine GoOps.q (v := .int .i64 s16) rfl rfl (by decide) (q_assign rfl) ?_
        refine GoOps.nil ?_
        exact Go.ret ⟨.inl rfl, _, _, DOk.nil, (resOk1 Try.results30 rfl), ⟨_, rfl, h⟩⟩
      · intro j17 hj17 h
        rcases bor p1 with hc20 | hc20
        · have h := h.1 hc20
          refine Go.condT (btT rfl hc20) ?_
          refine Go.region rfl ?_
          refine GoOps.q (v := .int .i64 (IntKind.wrap .i64 ((IntKind.wrap .i64 ((IntKind.wrap .i64 (2 + (IntKind.wrap .i64 (2 * y15)))) + (IntKind.wrap .i64 (2 * p2)))) + p3))) rfl rfl (by decide) (q_move rfl) ?_
          obtain ⟨x21, hx22, h⟩ := h
          refine GoOps.q (v := .agg ([.int .i64 x21.1, .int .i64 x21.2.1, .int .i64 x21.2.2] : List Value).toArray) rfl rfl (by decide) (q_loadA aggr25 e10_4 hx22) ?_
          refine call_dst rfl (by decide) body25 (keelsonref1_Pages_s _ _ _ h) rfl ?_
          rintro _ H23 ⟨y24, rfl, h⟩
          refine GoOps.q (v := .int .i64 (IntKind.wrap .i64 (2 * y24))) rfl rfl (by decide) (q_mul rfl rfl) ?_
          refine GoOps.q (v := .int .i64 (IntKind.wrap .i64 ((IntKind.wrap .i64 ((IntKind.wrap .i64 ((IntKind.wrap .i64 (2 + (IntKind.wrap .i64 (2 * y15)))) + (IntKind.wrap .i64 (2 * p2)))) + p3)) + (IntKind.wrap .i64 (2 * y24))))) rfl rfl (by decide) (q_add rfl rfl) ?_
          refine GoOps.q (v := .int .i64 (IntKind.wrap .i64 ((IntKind.wrap .i64 ((IntKind.wrap .i64 ((IntKind.wrap .i64 (2 + (IntKind.wrap .i64 (2 * y15)))) + (IntKind.wrap .i64 (2 * p2)))) + p3)) + (IntKind.wrap .i64 (2 * y24))))) rfl rfl (by decide) (q_assign rfl) ?_
          refine GoOps.nil ?_
          exact hj17 _ _ _ h rfl
        · have h := h.2 hc20
          refine Go.condF (btF rfl hc20) ?_
          refine Go.skip ?_
          exact hj17 _ _ _ h rfl
  · intro j8 hj8 h
    rcases bor (!y5) with hc6 | hc6
    · have h := h.1 hc6
      refine no_dst (want_no rfl rfl rfl hc6) rfl (by decide) ?_
      refine no_dst (want_no rfl rfl rfl hc6) rfl (by decide) ?_
      refine no_dst (want_no rfl rfl rfl hc6) rfl (by decide) ?_
      refine no_dst (want_no rfl rfl rfl hc6) rfl (by decide) ?_
      refine no_dst (want_no rfl rfl rfl hc6) rfl (by decide) ?_
      refine no_dst (want_no rfl rfl rfl hc6) rfl (by decide) ?_
      refine GoOps.q (v := .bool true) rfl rfl (by decide) (q_pickT (btT rfl hc6) rfl) ?_
      exact hj8 _ _ _ h ⟨rfl, rfl, rfl, rfl, rfl⟩
    · have h := h.2 hc6
      refine GoOps.q (v := .int .i64 p2) (want_yes rfl rfl rfl hc6) rfl (by decide) (q_move rfl) ?_
      obtain ⟨x25, hx26, h⟩ := h
      refine GoOps.q (v := .agg ([.int .i64 x25.1, .int .i64 x25.2.1, .int .i64 x25.2.2] : List Value).toArray) (want_yes rfl rfl rfl hc6) rfl (by decide) (q_loadA aggr25 rfl hx26) ?_
      refine call_dst (want_yes rfl rfl rfl hc6) (by decide) body25 (keelsonref1_Pages_s _ _ _ h) rfl ?_
      rintro _ H27 ⟨y28, rfl, h⟩
      refine GoOps.q (v := .int .i64 (IntKind.wrap .i64 (y28 - 1))) (want_yes rfl rfl rfl hc6) rfl (by decide) (q_sub rfl rfl) ?_
      refine call_dst (want_yes rfl rfl rfl hc6) (by decide) body39 (keelsonref1_Within_s _ _ _ _ _ h) rfl ?_
      rintro _ H29 ⟨y30, rfl, h⟩
      refine GoOps.q (v := .bool (!y30)) (want_yes rfl rfl rfl hc6) rfl (by decide) (q_not rfl) ?_
      refine GoOps.q (v := .bool (!y30)) rfl rfl (by decide) (q_pickF (btF rfl hc6) rfl) ?_
      exact hj8 _ _ _ h ⟨rfl, rfl, rfl, rfl, rfl⟩

/-- keelson.keelsonref1.Half -/
def keelsonref1_Half (p0 : (Int × Int × Int)) (H : PH) (Q : Int → PH → Prop) : Prop :=
  mNew H (row [.int .i64 p0.1, .int .i64 p0.2.1, .int .i64 p0.2.2] 25) fun a1 H2 =>
  mLd (.int .i64) H2 (a1.add 2) fun x4 =>
  Q (IntKind.wrap .i64 (Int.tdiv (IntKind.wrap .i64 (x4 - 2)) 2)) H2

set_option maxRecDepth 20000 in
set_option maxHeartbeats 1000000 in
theorem keelsonref1_Half_s (p0 : (Int × Int × Int)) (H : PH) (Q : Int → PH → Prop) (h : keelsonref1_Half p0 H Q) :
    CallsH Try.prog 32 #[.agg ([.int .i64 p0.1, .int .i64 p0.2.1, .int .i64 p0.2.2] : List Value).toArray] H (fun v H' => ∃ (r0 : Int), v = .int .i64 r0 ∧ Q r0 H') := by
  unfold keelsonref1_Half at h
  refine callsH_of_go Try.func32 rfl Try.ntmps32 (Nat.le_of_ble_eq_true rfl) ?_
  refine Go.seq ?_
  refine Go.region rfl ?_
  refine op_dst rfl rfl (by decide) (do_newBox (cs := [.int .i64 p0.1, .int .i64 p0.2.1, .int .i64 p0.2.2]) rfl rfl fun a1 H2 hb3 => ?_) 
  have h := h a1 H2 hb3
  refine GoOps.q (v := .int .i64 0) rfl rfl (by decide) (q_assign rfl) ?_
  refine GoOps.nil ?_
  refine Go.seq ?_
  refine Go.region rfl ?_
  refine GoOps.q (v := .pointer (some (a1.add 2))) rfl rfl (by decide) (q_fieldAddr foff25_2 rfl) ?_
  obtain ⟨x4, hx5, h⟩ := h
  refine GoOps.q (v := .int .i64 x4) rfl rfl (by decide) (q_load scalar3 rfl hx5) ?_
  refine GoOps.q (v := .int .i64 (IntKind.wrap .i64 (x4 - 2))) rfl rfl (by decide) (q_sub rfl rfl) ?_
  refine GoOps.q (v := .int .i64 (IntKind.wrap .i64 (Int.tdiv (IntKind.wrap .i64 (x4 - 2)) 2))) rfl rfl (by decide) (q_quo (by decide) rfl rfl) ?_
  refine GoOps.q (v := .int .i64 (IntKind.wrap .i64 (Int.tdiv (IntKind.wrap .i64 (x4 - 2)) 2))) rfl rfl (by decide) (q_assign rfl) ?_
  refine GoOps.nil ?_
  exact Go.ret ⟨.inl rfl, _, _, DOk.nil, (resOk1 Try.results32 rfl), ⟨_, rfl, h⟩⟩

/-- keelson.keelsonref1.Share -/
def keelsonref1_Share (p0 : (Int × Int × Int)) (H : PH) (Q : Int → PH → Prop) : Prop :=
  mNew H (row [.int .i64 p0.1, .int .i64 p0.2.1, .int .i64 p0.2.2] 25) fun a1 H2 =>
  mLd (.int .i64) H2 (a1.add 1) fun x4 =>
  mLdR (fun (x : (Int × Int × Int)) => [.int .i64 x.1, .int .i64 x.2.1, .int .i64 x.2.2]) H2 a1 3 fun x6 =>
  keelsonref1_Half (x6.1, x6.2.1, x6.2.2) H2 fun y9 H8 =>
  mSame H8 (a1.add 1) (.int .i64 x4) <|
  Q (IntKind.wrap .i64 ((IntKind.wrap .i64 ((IntKind.wrap .i64 ((IntKind.wrap .i64 (x4 - 2)) - 1)) * (IntKind.wrap .i64 (y9 + 1)))) - 1)) H8

set_option maxRecDepth 20000 in
set_option maxHeartbeats 1000000 in
theorem keelsonref1_Share_s (p0 : (Int × Int × Int)) (H : PH) (Q : Int → PH → Prop) (h : keelsonref1_Share p0 H Q) :
    CallsH Try.prog 33 #[.agg ([.int .i64 p0.1, .int .i64 p0.2.1, .int .i64 p0.2.2] : List Value).toArray] H (fun v H' => ∃ (r0 : Int), v = .int .i64 r0 ∧ Q r0 H') := by
  unfold keelsonref1_Share at h
  refine callsH_of_go Try.func33 rfl Try.ntmps33 (Nat.le_of_ble_eq_true rfl) ?_
  refine Go.seq ?_
  refine Go.region rfl ?_
  refine op_dst rfl rfl (by decide) (do_newBox (cs := [.int .i64 p0.1, .int .i64 p0.2.1, .int .i64 p0.2.2]) rfl rfl fun a1 H2 hb3 => ?_) 
  have h := h a1 H2 hb3
  refine GoOps.q (v := .int .i64 0) rfl rfl (by decide) (q_assign rfl) ?_
  refine GoOps.nil ?_
  refine Go.seq ?_
  refine Go.draw mixed ?_
  refine plan_pure (i := 0) (d := 3) (S2 := 1) (v := .pointer (some (a1.add 1))) rfl (by decide +kernel) rfl (q_fieldAddr foff25_1 rfl) ?_
  obtain ⟨x4, hx5, h⟩ := h
  refine plan_load (i := 1) (d := 4) (S2 := 3) (v := .int .i64 x4) rfl (by decide +kernel) rfl (q_load scalar3 rfl hx5) ?_
  refine plan_pure (i := 2) (d := 5) (S2 := 7) (v := .int .i64 (IntKind.wrap .i64 (x4 - 2))) rfl (by decide +kernel) rfl (q_sub rfl rfl) ?_
  refine plan_pure (i := 3) (d := 6) (S2 := 15) (v := .int .i64 (IntKind.wrap .i64 ((IntKind.wrap .i64 (x4 - 2)) - 1))) rfl (by decide +kernel) rfl (q_sub rfl rfl) ?_
  obtain ⟨x6, hx7, h⟩ := h
  refine plan_load (i := 4) (d := 7) (S2 := 31) (v := .agg ([.int .i64 x6.1, .int .i64 x6.2.1, .int .i64 x6.2.2] : List Value).toArray) rfl (by decide +kernel) rfl (q_loadA aggr25 rfl hx7) ?_
  refine plan_one (j := 5) (S2 := 63) (by decide +kernel) rfl (by decide) rfl ?_
  refine do_call2 body32 (keelsonref1_Half_s _ _ _ h) rfl ?_
  rintro _ H8 ⟨y9, rfl, h⟩
  obtain ⟨hr10, h⟩ := h
  refine ⟨⟨.inl ⟨[5], by decide +kernel, rfl⟩, .inr ⟨_, _, rfl, rfl, q_load scalar3 rfl hr10⟩, trivial⟩, ?_⟩
  refine plan_pure (i := 6) (d := 9) (S2 := 127) (v := .int .i64 (IntKind.wrap .i64 (y9 + 1))) rfl (by decide +kernel) rfl (q_add rfl rfl) ?_
  refine plan_pure (i := 7) (d := 10) (S2 := 255) (v := .int .i64 (IntKind.wrap .i64 ((IntKind.wrap .i64 ((IntKind.wrap .i64 (x4 - 2)) - 1)) * (IntKind.wrap .i64 (y9 + 1))))) rfl (by decide +kernel) rfl (q_mul rfl rfl) ?_
  refine plan_pure (i := 8) (d := 11) (S2 := 511) (v := .int .i64 (IntKind.wrap .i64 ((IntKind.wrap .i64 ((IntKind.wrap .i64 ((IntKind.wrap .i64 (x4 - 2)) - 1)) * (IntKind.wrap .i64 (y9 + 1)))) - 1))) rfl (by decide +kernel) rfl (q_sub rfl rfl) ?_
  refine plan_pure (i := 9) (d := 2) (S2 := 1023) (v := .int .i64 (IntKind.wrap .i64 ((IntKind.wrap .i64 ((IntKind.wrap .i64 ((IntKind.wrap .i64 (x4 - 2)) - 1)) * (IntKind.wrap .i64 (y9 + 1)))) - 1))) rfl (by decide +kernel) rfl (q_assign rfl) ?_
  refine plan_done (by decide +kernel) ?_
  exact Go.ret ⟨.inl rfl, _, _, DOk.nil, (resOk1 Try.results33 rfl), ⟨_, rfl, h⟩⟩

/-- keelson.keelsonlaw4.GeomTells -/
def keelsonlaw4_GeomTells (p0 : (Int × Int × Int)) (p1 : Int) (p2 : Int) (p3 : Bool) (H : PH) (Q : Bool → PH → Prop) : Prop :=
  mNew H (row [.int .i64 p0.1, .int .i64 p0.2.1, .int .i64 p0.2.2] 25) fun a1 H2 =>
  mLdR (fun (x : (Int × Int × Int)) => [.int .i64 x.1, .int .i64 x.2.1, .int .i64 x.2.2]) H2 a1 3 fun x4 =>
  geom_New (x4.1, x4.2.1, x4.2.2) H2 fun y7 y8 H6 =>
  mLdR (fun (x : (Int × Int × Int)) => [.int .i64 x.1, .int .i64 x.2.1, .int .i64 x.2.2]) H6 a1 3 fun x9 =>
  keelsonref1_ConfigMay (x9.1, x9.2.1, x9.2.2) H6 fun y12 H11 =>
  mIf (!y12)
  (mJoin (fun (s15 : Bool) (H17 : PH) =>
  mJoin (fun (s20 : Bool) (H22 : PH) =>
  Q s20 H22)
  fun j21 =>
  mIf s15
  (keelsonlaw4_awake H17 fun y25 H24 =>
  j21 y25 H24)
  (j21 false H17))
  fun j16 =>
  mIf (y8 == 1)
  (j16 (Option.isNone y7) H11)
  (j16 false H11))
  (mJoin (fun (s27 : Bool) (H29 : PH) =>
  mJoin (fun (s32 : Bool) (H34 : PH) =>
  mIf s32
  (Q false H34)
  (geom_Geom_Where y7 p1 H34 fun y38 y39 y40 H37 =>
  mLdR (fun (x : (Int × Int × Int)) => [.int .i64 x.1, .int .i64 x.2.1, .int .i64 x.2.2]) H37 a1 3 fun x41 =>
  keelsonref1_Where (x41.1, x41.2.1, x41.2.2) p1 H37 fun y44 y45 y46 H43 =>
  mJoin (fun (s48 : Bool) (H50 : PH) =>
  mJoin (fun (s53 : Bool) (H55 : PH) =>
  mJoin (fun (s58 : Bool) (H60 : PH) =>
  mJoin (fun (s63 : Bool) (H65 : PH) =>
  mJoin (fun (s68 : Bool) (H70 : PH) =>
  mIf s68
  (Q false H70)
  (geom_Geom_Super y7 p1 H70 fun y74 H73 =>
  keelsonref1_SuperAt p1 H73 fun y76 H75 =>
  mJoin (fun (s78 : Bool) (H80 : PH) =>
  mJoin (fun (s83 : Bool) (H85 : PH) =>
  mJoin (fun (s88 : Bool) (H90 : PH) =>
  mJoin (fun (s93 : Bool) (H95 : PH) =>
  mJoin (fun (s98 : Bool) (H100 : PH) =>
  mJoin (fun (s103 : Bool) (H105 : PH) =>
  Q s103 H105)
  fun j104 =>
  mIf s98
  (keelsonlaw4_awake H100 fun y108 H107 =>
  j104 y108 H107)
  (j104 false H100))
  fun j99 =>
  mIf s93
  (mLdR (fun (x : (Int × Int × Int)) => [.int .i64 x.1, .int .i64 x.2.1, .int .i64 x.2.2]) H95 a1 3 fun x109 =>
  geom_Geom_Share y7 H95 fun y112 H111 =>
  mSameA H111 a1 3 ([.int .i64 x109.1, .int .i64 x109.2.1, .int .i64 x109.2.2]) <|
  keelsonref1_Share (x109.1, x109.2.1, x109.2.2) H111 fun y115 H114 =>
  j99 (y112 == y115) H114)
  (j99 false H95))
  fun j94 =>
  mIf s88
  (mLdR (fun (x : (Int × Int × Int)) => [.int .i64 x.1, .int .i64 x.2.1, .int .i64 x.2.2]) H90 a1 3 fun x116 =>
  geom_Geom_Half y7 H90 fun y119 H118 =>
  mSameA H118 a1 3 ([.int .i64 x116.1, .int .i64 x116.2.1, .int .i64 x116.2.2]) <|
  keelsonref1_Half (x116.1, x116.2.1, x116.2.2) H118 fun y122 H121 =>
  j94 (y119 == y122) H121)
  (j94 false H90))
  fun j89 =>
  mIf s83
  (mLdR (fun (x : (Int × Int × Int)) => [.int .i64 x.1, .int .i64 x.2.1, .int .i64 x.2.2]) H85 a1 3 fun x123 =>
  geom_Geom_Seg y7 p1 H85 fun y126 H125 =>
  mSameA H125 a1 3 ([.int .i64 x123.1, .int .i64 x123.2.1, .int .i64 x123.2.2]) <|
  keelsonref1_SegAt (x123.1, x123.2.1, x123.2.2) p1 H125 fun y129 H128 =>
  j89 (y126 == y129) H128)
  (j89 false H85))
  fun j84 =>
  mIf s78
  (mLdR (fun (x : (Int × Int × Int)) => [.int .i64 x.1, .int .i64 x.2.1, .int .i64 x.2.2]) H80 a1 3 fun x130 =>
  geom_Geom_Page y7 p3 p1 p2 H80 fun y133 H132 =>
  mSameA H132 a1 3 ([.int .i64 x130.1, .int .i64 x130.2.1, .int .i64 x130.2.2]) <|
  keelsonref1_PageAt (x130.1, x130.2.1, x130.2.2) p3 p1 p2 H132 fun y136 H135 =>
  j84 (y133 == y136) H135)
  (j84 false H80))
  fun j79 =>
  mIf (y74 == y76)
  (mLdR (fun (x : (Int × Int × Int)) => [.int .i64 x.1, .int .i64 x.2.1, .int .i64 x.2.2]) H75 a1 3 fun x137 =>
  geom_Geom_Region y7 p1 H75 fun y140 H139 =>
  mSameA H139 a1 3 ([.int .i64 x137.1, .int .i64 x137.2.1, .int .i64 x137.2.2]) <|
  keelsonref1_RegionAt (x137.1, x137.2.1, x137.2.2) p1 H139 fun y143 H142 =>
  j79 (y140 == y143) H142)
  (j79 false H75)))
  fun j69 =>
  mIf s63
  (j69 true H65)
  (mLdR (fun (x : (Int × Int × Int)) => [.int .i64 x.1, .int .i64 x.2.1, .int .i64 x.2.2]) H65 a1 3 fun x144 =>
  geom_Geom_Sectors y7 H65 fun y147 H146 =>
  mSameA H146 a1 3 ([.int .i64 x144.1, .int .i64 x144.2.1, .int .i64 x144.2.2]) <|
  keelsonref1_Sectors (x144.1, x144.2.1, x144.2.2) H146 fun y150 H149 =>
  j69 (y147 != y150) H149))
  fun j64 =>
  mIf s58
  (j64 true H60)
  (mLdR (fun (x : (Int × Int × Int)) => [.int .i64 x.1, .int .i64 x.2.1, .int .i64 x.2.2]) H60 a1 3 fun x151 =>
  geom_Geom_RegionLen y7 H60 fun y154 H153 =>
  mSameA H153 a1 3 ([.int .i64 x151.1, .int .i64 x151.2.1, .int .i64 x151.2.2]) <|
  keelsonref1_RegionLen (x151.1, x151.2.1, x151.2.2) H153 fun y157 H156 =>
  j64 (y154 != y157) H156))
  fun j59 =>
  mIf s53
  (j59 true H55)
  (mLdR (fun (x : (Int × Int × Int)) => [.int .i64 x.1, .int .i64 x.2.1, .int .i64 x.2.2]) H55 a1 3 fun x158 =>
  geom_Geom_Pages y7 H55 fun y161 H160 =>
  mSameA H160 a1 3 ([.int .i64 x158.1, .int .i64 x158.2.1, .int .i64 x158.2.2]) <|
  keelsonref1_Pages (x158.1, x158.2.1, x158.2.2) H160 fun y164 H163 =>
  j59 (y161 != y164) H163))
  fun j54 =>
  mIf s48
  (j54 true H50)
  (j54 (y40 != y46) H50))
  fun j49 =>
  mIf (y38 != y44)
  (j49 true H43)
  (j49 (y39 != y45) H43)))
  fun j33 =>
  mIf s27
  (j33 true H29)
  (mLdR (fun (x : (Int × Int × Int)) => [.int .i64 x.1, .int .i64 x.2.1, .int .i64 x.2.2]) H29 a1 3 fun x165 =>
  geom_Geom_Config y7 H29 fun y168 H167 =>
  mSameA H167 a1 3 ([.int .i64 x165.1, .int .i64 x165.2.1, .int .i64 x165.2.2]) <|
  j33 (!(andAll [y168.1 == x165.1, y168.2.1 == x165.2.1, y168.2.2 == x165.2.2])) H167))
  fun j28 =>
  mIf (y8 != 0)
  (j28 true H11)
  (j28 (Option.isNone y7) H11))

set_option maxRecDepth 20000 in
set_option maxHeartbeats 1000000 in
theorem keelsonlaw4_GeomTells_s (p0 : (Int × Int × Int)) (p1 : Int) (p2 : Int) (p3 : Bool) (H : PH) (Q : Bool → PH → Prop) (h : keelsonlaw4_GeomTells p0 p1 p2 p3 H Q) :
    CallsH Try.prog 6 #[.agg ([.int .i64 p0.1, .int .i64 p0.2.1, .int .i64 p0.2.2] : List Value).toArray, .int .i64 p1, .int .i64 p2, .bool p3] H (fun v H' => ∃ (r0 : Bool), v = .bool r0 ∧ Q r0 H') := by
  unfold keelsonlaw4_GeomTells at h
  refine callsH_of_go Try.func6 rfl Try.ntmps6 (Nat.le_of_ble_eq_true rfl) ?_
  refine Go.seq ?_
  refine Go.region rfl ?_
  refine op_dst rfl rfl (by decide) (do_newBox (cs := [.int .i64 p0.1, .int .i64 p0.2.1, .int .i64 p0.2.2]) rfl rfl fun a1 H2 hb3 => ?_) 
  have h := h a1 H2 hb3
  refine GoOps.q (v := .bool false) rfl rfl (by decide) (q_assign rfl) ?_
  refine GoOps.nil ?_
  refine Go.seq ?_
  refine Go.region rfl ?_
  obtain ⟨x4, hx5, h⟩ := h
  refine GoOps.q (v := .agg ([.int .i64 x4.1, .int .i64 x4.2.1, .int .i64 x4.2.2] : List Value).toArray) rfl rfl (by decide) (q_loadA aggr25 rfl hx5) ?_
  refine call_dst rfl (by decide) body8 (geom_New_s _ _ _ h) rfl ?_
  rintro _ H6 ⟨y7, y8, rfl, h⟩
  refine GoOps.q (v := .tuple #[.pointer y7, .int .i64 y8]) rfl rfl (by decide) (q_move rfl) ?_
  refine GoOps.q (v := .pointer y7) rfl rfl (by decide) (q_extract rfl rfl) ?_
  refine GoOps.q (v := .int .i64 y8) rfl rfl (by decide) (q_extract rfl rfl) ?_
  refine GoOps.q (v := .pointer y7) rfl rfl (by decide) (q_assign rfl) ?_
  refine GoOps.q (v := .int .i64 y8) rfl rfl (by decide) (q_assign rfl) ?_
  refine GoOps.nil ?_
  refine Go.seq ?_
  refine Go.seq ?_
  refine Go.region rfl ?_
  obtain ⟨x9, hx10, h⟩ := h
  refine GoOps.q (v := .agg ([.int .i64 x9.1, .int .i64 x9.2.1, .int .i64 x9.2.2] : List Value).toArray) rfl rfl (by decide) (q_loadA aggr25 rfl hx10) ?_
  refine call_dst rfl (by decide) body22 (keelsonref1_ConfigMay_s _ _ _ h) rfl ?_
  rintro _ H11 ⟨y12, rfl, h⟩
  refine GoOps.q (v := .bool (!y12)) rfl rfl (by decide) (q_not rfl) ?_
  refine GoOps.nil ?_
  rcases bor (!y12) with hc13 | hc13
  · have h := h.1 hc13
    refine Go.condT (btT rfl hc13) ?_
    refine Go.seq ?_
    refine Go.region rfl ?_
    refine GoOps.q (v := .int .i64 y8) rfl rfl (by decide) (q_move rfl) ?_
    refine GoOps.q (v := .bool (y8 == 1)) rfl rfl (by decide) (q_eql rfl rfl) ?_
    refine GoOps.q (v := .bool (y8 == 1)) rfl rfl (by decide) (q_move rfl) ?_
    refine join_ops 3 (fun ρ (s15 : Bool) => ρ 30 = .bool s15) h ?_ ?_ <;> clear h
    · intro s15 H17 ρ h hE
      have e18_30 := hE
      refine GoOps.q (v := .bool s15) rfl rfl (by decide) (q_move e18_30) ?_
      refine join_ops 2 (fun ρ (s20 : Bool) => ρ 33 = .bool s20) h ?_ ?_ <;> clear h
      · intro s20 H22 ρ h hE
        have e23_33 := hE
        refine GoOps.q (v := .bool s20) rfl rfl (by decide) (q_assign e23_33) ?_
        refine GoOps.nil ?_
        exact Go.ret ⟨.inl rfl, _, _, DOk.nil, (resOk1 Try.results6 rfl), ⟨_, rfl, h⟩⟩
      · intro j21 hj21 h
        rcases bor s15 with hc19 | hc19
        · have h := h.1 hc19
          refine call_dst (want_yes rfl rfl rfl hc19) (by decide) body9 (keelsonlaw4_awake_s _ _ h) rfl ?_
          rintro _ H24 ⟨y25, rfl, h⟩
          refine GoOps.q (v := .bool y25) rfl rfl (by decide) (q_pickT (btT rfl hc19) rfl) ?_
          exact hj21 _ _ _ h rfl
        · have h := h.2 hc19
          refine no_dst (want_no rfl rfl rfl hc19) rfl (by decide) ?_
          refine GoOps.q (v := .bool false) rfl rfl (by decide) (q_pickF (btF rfl hc19) rfl) ?_
          exact hj21 _ _ _ h rfl
    · intro j16 hj16 h
      rcases bor (y8 == 1) with hc14 | hc14
      · have h := h.1 hc14
        refine GoOps.q (v := .pointer y7) (want_yes rfl rfl rfl hc14) rfl (by decide) (q_move rfl) ?_
        refine GoOps.q (v := .bool (Option.isNone y7)) (want_yes rfl rfl rfl hc14) rfl (by decide) (q_eqlPn Try.underlying27 rfl rfl) ?_
        refine GoOps.q (v := .bool (Option.isNone y7)) rfl rfl (by decide) (q_pickT (btT rfl hc14) rfl) ?_
        exact hj16 _ _ _ h rfl
      · have h := h.2 hc14
        refine no_dst (want_no rfl rfl rfl hc14) rfl (by decide) ?_
        refine no_dst (want_no rfl rfl rfl hc14) rfl (by decide) ?_
        refine GoOps.q (v := .bool false) rfl rfl (by decide) (q_pickF (btF rfl hc14) rfl) ?_
        exact hj16 _ _ _ h rfl
  · have h := h.2 hc13
    refine Go.condF (btF rfl hc13) ?_
    refine Go.skip ?_
    refine Go.seq ?_
    refine Go.seq ?_
    refine Go.draw mixed ?_
    refine plan_pure (i := 0) (d := 34) (S2 := 1) (v := .int .i64 y8) rfl (by decide +kernel) rfl (q_move rfl) ?_
    refine plan_pure (i := 1) (d := 35) (S2 := 3) (v := .bool (y8 != 0)) rfl (by decide +kernel) rfl (q_neq rfl rfl) ?_
    refine plan_pure (i := 2) (d := 36) (S2 := 7) (v := .bool (y8 != 0)) rfl (by decide +kernel) rfl (q_move rfl) ?_
    refine join_plan 63 [] (fun ρ (s27 : Bool) => ρ 1 = .int .i64 p1 ∧ ρ 2 = .int .i64 p2 ∧ ρ 3 = .bool p3 ∧ ρ 4 = .pointer (some a1) ∧ ρ 9 = .pointer y7 ∧ ρ 39 = .bool s27) h ?_ ?_ <;> clear h
    · intro s27 H29 ρ h hE
      obtain ⟨e30_1, e30_2, e30_3, e30_4, e30_9, e30_39⟩ := hE
      refine plan_pure (i := 6) (d := 40) (S2 := 127) (v := .bool s27) rfl (by decide +kernel) rfl (q_move e30_39) ?_
      refine join_plan 4095 [9] (fun ρ (s32 : Bool) => ρ 1 = .int .i64 p1 ∧ ρ 2 = .int .i64 p2 ∧ ρ 3 = .bool p3 ∧ ρ 4 = .pointer (some a1) ∧ ρ 9 = .pointer y7 ∧ ρ 45 = .bool s32) h ?_ ?_ <;> clear h
      · intro s32 H34 ρ h hE
        obtain ⟨e35_1, e35_2, e35_3, e35_4, e35_9, e35_45⟩ := hE
        refine plan_done (by decide +kernel) ?_
        rcases bor s32 with hc36 | hc36
        · have h := h.1 hc36
          refine Go.condT (btT e35_45 hc36) ?_
          refine Go.seq ?_
          refine Go.region rfl ?_
          refine GoOps.q (v := .bool false) rfl rfl (by decide) (q_assign rfl) ?_
          refine GoOps.nil ?_
          exact Go.ret ⟨.inl rfl, _, _, DOk.nil, (resOk1 Try.results6 rfl), ⟨_, rfl, h⟩⟩
        · have h := h.2 hc36
          refine Go.condF (btF e35_45 hc36) ?_
          refine Go.skip ?_
          refine Go.seq ?_
          refine Go.region rfl ?_
          refine GoOps.q (v := .pointer y7) rfl rfl (by decide) (q_move e35_9) ?_
          refine GoOps.q (v := .int .i64 p1) rfl rfl (by decide) (q_move e35_1) ?_
          refine call_dst rfl (by decide) body14 (geom_Geom_Where_s _ _ _ _ h) rfl ?_
          rintro _ H37 ⟨y38, y39, y40, rfl, h⟩
          refine GoOps.q (v := .tuple #[.int .i64 y38, .int .i64 y39, .bool y40]) rfl rfl (by decide) (q_move rfl) ?_
          refine GoOps.q (v := .int .i64 y38) rfl rfl (by decide) (q_extract rfl rfl) ?_
          refine GoOps.q (v := .int .i64 y39) rfl rfl (by decide) (q_extract rfl rfl) ?_
          refine GoOps.q (v := .bool y40) rfl rfl (by decide) (q_extract rfl rfl) ?_
          refine GoOps.q (v := .int .i64 y38) rfl rfl (by decide) (q_assign rfl) ?_
          refine GoOps.q (v := .int .i64 y39) rfl rfl (by decide) (q_assign rfl) ?_
          refine GoOps.q (v := .bool y40) rfl rfl (by decide) (q_assign rfl) ?_
          refine GoOps.nil ?_
          refine Go.seq ?_
          refine Go.region rfl ?_
          obtain ⟨x41, hx42, h⟩ := h
          refine GoOps.q (v := .agg ([.int .i64 x41.1, .int .i64 x41.2.1, .int .i64 x41.2.2] : List Value).toArray) rfl rfl (by decide) (q_loadA aggr25 e35_4 hx42) ?_
          refine GoOps.q (v := .int .i64 p1) rfl rfl (by decide) (q_move e35_1) ?_
          refine call_dst rfl (by decide) body24 (keelsonref1_Where_s _ _ _ _ h) rfl ?_
          rintro _ H43 ⟨y44, y45, y46, rfl, h⟩
          refine GoOps.q (v := .tuple #[.int .i64 y44, .int .i64 y45, .bool y46]) rfl rfl (by decide) (q_move rfl) ?_
          refine GoOps.q (v := .int .i64 y44) rfl rfl (by decide) (q_extract rfl rfl) ?_
          refine GoOps.q (v := .int .i64 y45) rfl rfl (by decide) (q_extract rfl rfl) ?_
          refine GoOps.q (v := .bool y46) rfl rfl (by decide) (q_extract rfl rfl) ?_
          refine GoOps.q (v := .int .i64 y44) rfl rfl (by decide) (q_assign rfl) ?_
          refine GoOps.q (v := .int .i64 y45) rfl rfl (by decide) (q_assign rfl) ?_
          refine GoOps.q (v := .bool y46) rfl rfl (by decide) (q_assign rfl) ?_
          refine GoOps.nil ?_
          refine Go.seq ?_
          refine Go.seq ?_
          refine Go.draw mixed ?_
          refine plan_pure (i := 0) (d := 60) (S2 := 1) (v := .int .i64 y38) rfl (by decide +kernel) rfl (q_move rfl) ?_
          refine plan_pure (i := 1) (d := 61) (S2 := 3) (v := .int .i64 y44) rfl (by decide +kernel) rfl (q_move rfl) ?_
          refine plan_pure (i := 2) (d := 62) (S2 := 7) (v := .bool (y38 != y44)) rfl (by decide +kernel) rfl (q_neq rfl rfl) ?_
          refine plan_pure (i := 3) (d := 63) (S2 := 15) (v := .bool (y38 != y44)) rfl (by decide +kernel) rfl (q_move rfl) ?_
          refine join_plan 255 [] (fun ρ (s48 : Bool) => ρ 1 = .int .i64 p1 ∧ ρ 2 = .int .i64 p2 ∧ ρ 3 = .bool p3 ∧ ρ 4 = .pointer (some a1) ∧ ρ 9 = .pointer y7 ∧ ρ 13 = .bool y40 ∧ ρ 16 = .bool y46 ∧ ρ 67 = .bool s48) h ?_ ?_ <;> clear h
          · intro s48 H50 ρ h hE
            obtain ⟨e51_1, e51_2, e51_3, e51_4, e51_9, e51_13, e51_16, e51_67⟩ := hE
            refine plan_pure (i := 8) (d := 68) (S2 := 511) (v := .bool s48) rfl (by decide +kernel) rfl (q_move e51_67) ?_
            refine join_plan 8191 [] (fun ρ (s53 : Bool) => ρ 1 = .int .i64 p1 ∧ ρ 2 = .int .i64 p2 ∧ ρ 3 = .bool p3 ∧ ρ 4 = .pointer (some a1) ∧ ρ 9 = .pointer y7 ∧ ρ 72 = .bool s53) h ?_ ?_ <;> clear h
            · intro s53 H55 ρ h hE
              obtain ⟨e56_1, e56_2, e56_3, e56_4, e56_9, e56_72⟩ := hE
              refine plan_pure (i := 13) (d := 73) (S2 := 16383) (v := .bool s53) rfl (by decide +kernel) rfl (q_move e56_72) ?_
              refine join_plan 1048575 [16] (fun ρ (s58 : Bool) => ρ 1 = .int .i64 p1 ∧ ρ 2 = .int .i64 p2 ∧ ρ 3 = .bool p3 ∧ ρ 4 = .pointer (some a1) ∧ ρ 9 = .pointer y7 ∧ ρ 79 = .bool s58) h ?_ ?_ <;> clear h
              · intro s58 H60 ρ h hE
                obtain ⟨e61_1, e61_2, e61_3, e61_4, e61_9, e61_79⟩ := hE
                refine plan_pure (i := 20) (d := 80) (S2 := 2097151) (v := .bool s58) rfl (by decide +kernel) rfl (q_move e61_79) ?_
                refine join_plan 134217727 [23, 16] (fun ρ (s63 : Bool) => ρ 1 = .int .i64 p1 ∧ ρ 2 = .int .i64 p2 ∧ ρ 3 = .bool p3 ∧ ρ 4 = .pointer (some a1) ∧ ρ 9 = .pointer y7 ∧ ρ 86 = .bool s63) h ?_ ?_ <;> clear h
                · intro s63 H65 ρ h hE
                  obtain ⟨e66_1, e66_2, e66_3, e66_4, e66_9, e66_86⟩ := hE
                  refine plan_pure (i := 27) (d := 87) (S2 := 268435455) (v := .bool s63) rfl (by decide +kernel) rfl (q_move e66_86) ?_
                  refine join_plan 17179869183 [30, 23, 16] (fun ρ (s68 : Bool) => ρ 1 = .int .i64 p1 ∧ ρ 2 = .int .i64 p2 ∧ ρ 3 = .bool p3 ∧ ρ 4 = .pointer (some a1) ∧ ρ 9 = .pointer y7 ∧ ρ 93 = .bool s68) h ?_ ?_ <;> clear h
                  · intro s68 H70 ρ h hE
                    obtain ⟨e71_1, e71_2, e71_3, e71_4, e71_9, e71_93⟩ := hE
                    refine plan_done (by decide +kernel) ?_
                    rcases bor s68 with hc72 | hc72
                    · have h := h.1 hc72
                      refine Go.condT (btT e71_93 hc72) ?_
                      refine Go.seq ?_
                      refine Go.region rfl ?_
                      refine GoOps.q (v := .bool false) rfl rfl (by decide) (q_assign rfl) ?_
                      refine GoOps.nil ?_
                      exact Go.ret ⟨.inl rfl, _, _, DOk.nil, (resOk1 Try.results6 rfl), ⟨_, rfl, h⟩⟩
                    · have h := h.2 hc72
                      refine Go.condF (btF e71_93 hc72) ?_
                      refine Go.skip ?_
                      refine Go.seq ?_
                      refine Go.draw mixed ?_
                      refine plan_pure (i := 0) (d := 94) (S2 := 1) (v := .pointer y7) rfl (by decide +kernel) rfl (q_move e71_9) ?_
                      refine plan_pure (i := 1) (d := 95) (S2 := 3) (v := .int .i64 p1) rfl (by decide +kernel) rfl (q_move e71_1) ?_
                      refine plan_pure (i := 3) (d := 97) (S2 := 11) (v := .int .i64 p1) rfl (by decide +kernel) rfl (q_move e71_1) ?_
                      refine plan_one (j := 2) (S2 := 15) (by decide +kernel) rfl (by decide) rfl ?_
                      refine do_call2 body17 (geom_Geom_Super_s _ _ _ _ h) rfl ?_
                      rintro _ H73 ⟨y74, rfl, h⟩
                      refine ⟨trivial, ?_⟩
                      refine plan_one (j := 4) (S2 := 31) (by decide +kernel) rfl (by decide) rfl ?_
                      refine do_call2 body28 (keelsonref1_SuperAt_s _ _ _ h) rfl ?_
                      rintro _ H75 ⟨y76, rfl, h⟩
                      refine ⟨trivial, ?_⟩
                      refine plan_pure (i := 5) (d := 99) (S2 := 63) (v := .bool (y74 == y76)) rfl (by decide +kernel) rfl (q_eql rfl rfl) ?_
                      refine plan_pure (i := 6) (d := 100) (S2 := 127) (v := .bool (y74 == y76)) rfl (by decide +kernel) rfl (q_move rfl) ?_
                      refine join_plan 32767 [10] (fun ρ (s78 : Bool) => ρ 1 = .int .i64 p1 ∧ ρ 2 = .int .i64 p2 ∧ ρ 3 = .bool p3 ∧ ρ 4 = .pointer (some a1) ∧ ρ 9 = .pointer y7 ∧ ρ 108 = .bool s78) h ?_ ?_ <;> clear h
                      · intro s78 H80 ρ h hE
                        obtain ⟨e81_1, e81_2, e81_3, e81_4, e81_9, e81_108⟩ := hE
                        refine plan_pure (i := 15) (d := 109) (S2 := 65535) (v := .bool s78) rfl (by decide +kernel) rfl (q_move e81_108) ?_
                        refine join_plan 268435455 [21, 10] (fun ρ (s83 : Bool) => ρ 1 = .int .i64 p1 ∧ ρ 4 = .pointer (some a1) ∧ ρ 9 = .pointer y7 ∧ ρ 121 = .bool s83) h ?_ ?_ <;> clear h
                        · intro s83 H85 ρ h hE
                          obtain ⟨e86_1, e86_4, e86_9, e86_121⟩ := hE
                          refine plan_pure (i := 28) (d := 122) (S2 := 536870911) (v := .bool s83) rfl (by decide +kernel) rfl (q_move e86_121) ?_
                          refine join_plan 137438953471 [32, 21, 10] (fun ρ (s88 : Bool) => ρ 4 = .pointer (some a1) ∧ ρ 9 = .pointer y7 ∧ ρ 130 = .bool s88) h ?_ ?_ <;> clear h
                          · intro s88 H90 ρ h hE
                            obtain ⟨e91_4, e91_9, e91_130⟩ := hE
                            refine plan_pure (i := 37) (d := 131) (S2 := 274877906943) (v := .bool s88) rfl (by decide +kernel) rfl (q_move e91_130) ?_
                            refine join_plan 17592186044415 [40, 32, 21, 10] (fun ρ (s93 : Bool) => ρ 4 = .pointer (some a1) ∧ ρ 9 = .pointer y7 ∧ ρ 137 = .bool s93) h ?_ ?_ <;> clear h
                            · intro s93 H95 ρ h hE
                              obtain ⟨e96_4, e96_9, e96_137⟩ := hE
                              refine plan_pure (i := 44) (d := 138) (S2 := 35184372088831) (v := .bool s93) rfl (by decide +kernel) rfl (q_move e96_137) ?_
                              refine join_plan 2251799813685247 [47, 40, 32, 21, 10] (fun ρ (s98 : Bool) => ρ 144 = .bool s98) h ?_ ?_ <;> clear h
                              · intro s98 H100 ρ h hE
                                have e101_144 := hE
                                refine plan_pure (i := 51) (d := 145) (S2 := 4503599627370495) (v := .bool s98) rfl (by decide +kernel) rfl (q_move e101_144) ?_
                                refine join_plan 18014398509481983 [47, 40, 32, 21, 10] (fun ρ (s103 : Bool) => ρ 147 = .bool s103) h ?_ ?_ <;> clear h
                                · intro s103 H105 ρ h hE
                                  have e106_147 := hE
                                  refine plan_pure (i := 54) (d := 8) (S2 := 36028797018963967) (v := .bool s103) rfl (by decide +kernel) rfl (q_assign e106_147) ?_
                                  refine plan_done (by decide +kernel) ?_
                                  exact Go.ret ⟨.inl rfl, _, _, DOk.nil, (resOk1 Try.results6 rfl), ⟨_, rfl, h⟩⟩
                                · intro j104 hj104 h
                                  rcases bor s98 with hc102 | hc102
                                  · have h := h.1 hc102
                                    refine plan_one (j := 52) (S2 := 9007199254740991) (by decide +kernel) rfl (by decide) (want_yes rfl rfl rfl hc102) ?_
                                    refine do_call2 body9 (keelsonlaw4_awake_s _ _ h) rfl ?_
                                    rintro _ H107 ⟨y108, rfl, h⟩
                                    refine ⟨⟨.inl ⟨[48, 51, 52], by decide +kernel, rfl⟩, .inl ⟨[41, 44, 48, 51, 52], by decide +kernel, rfl⟩, .inl ⟨[34, 37, 41, 44, 48, 51, 52], by decide +kernel, rfl⟩, .inl ⟨[25, 28, 34, 37, 41, 44, 48, 51, 52], by decide +kernel, rfl⟩, .inl ⟨[12, 15, 25, 28, 34, 37, 41, 44, 48, 51, 52], by decide +kernel, rfl⟩, trivial⟩, ?_⟩
                                    refine plan_pure (i := 53) (d := 147) (S2 := 18014398509481983) (v := .bool y108) rfl (by decide +kernel) rfl (q_pickT (btT rfl hc102) rfl) ?_
                                    exact hj104 _ _ _ h rfl
                                  · have h := h.2 hc102
                                    refine plan_skip (i := 52) (d := 146) (S2 := 9007199254740991) rfl (by decide +kernel) (want_no rfl rfl rfl hc102) ?_
                                    refine plan_pure (i := 53) (d := 147) (S2 := 18014398509481983) (v := .bool false) rfl (by decide +kernel) rfl (q_pickF (btF rfl hc102) rfl) ?_
                                    exact hj104 _ _ _ h rfl
                              · intro j99 hj99 h
                                rcases bor s93 with hc97 | hc97
                                · have h := h.1 hc97
                                  refine plan_pure (i := 45) (d := 139) (S2 := 70368744177663) (v := .pointer y7) rfl (by decide +kernel) (want_yes rfl rfl rfl hc97) (q_move e96_9) ?_
                                  obtain ⟨x109, hx110, h⟩ := h
                                  refine plan_load (i := 47) (d := 141) (S2 := 211106232532991) (v := .agg ([.int .i64 x109.1, .int .i64 x109.2.1, .int .i64 x109.2.2] : List Value).toArray) rfl (by decide +kernel) (want_yes rfl rfl rfl hc97) (q_loadA aggr25 e96_4 hx110) ?_
                                  refine plan_one (j := 46) (S2 := 281474976710655) (by decide +kernel) rfl (by decide) (want_yes rfl rfl rfl hc97) ?_
                                  refine do_call2 body12 (geom_Geom_Share_s _ _ _ h) rfl ?_
                                  rintro _ H111 ⟨y112, rfl, h⟩
                                  obtain ⟨hr113, h⟩ := h
                                  refine ⟨⟨.inr ⟨_, _, rfl, rfl, q_loadA aggr25 e96_4 hr113⟩, .inl ⟨[41, 44, 46], by decide +kernel, rfl⟩, .inl ⟨[34, 37, 41, 44, 46], by decide +kernel, rfl⟩, .inl ⟨[25, 28, 34, 37, 41, 44, 46], by decide +kernel, rfl⟩, .inl ⟨[12, 15, 25, 28, 34, 37, 41, 44, 46], by decide +kernel, rfl⟩, trivial⟩, ?_⟩
                                  refine plan_one (j := 48) (S2 := 562949953421311) (by decide +kernel) rfl (by decide) (want_yes rfl rfl rfl hc97) ?_
                                  refine do_call2 body33 (keelsonref1_Share_s _ _ _ h) rfl ?_
                                  rintro _ H114 ⟨y115, rfl, h⟩
                                  refine ⟨⟨.inl ⟨[48], by decide +kernel, rfl⟩, .inl ⟨[41, 44, 48], by decide +kernel, rfl⟩, .inl ⟨[34, 37, 41, 44, 48], by decide +kernel, rfl⟩, .inl ⟨[25, 28, 34, 37, 41, 44, 48], by decide +kernel, rfl⟩, .inl ⟨[12, 15, 25, 28, 34, 37, 41, 44, 48], by decide +kernel, rfl⟩, trivial⟩, ?_⟩
                                  refine plan_pure (i := 49) (d := 143) (S2 := 1125899906842623) (v := .bool (y112 == y115)) rfl (by decide +kernel) (want_yes rfl rfl rfl hc97) (q_eql rfl rfl) ?_
                                  refine plan_pure (i := 50) (d := 144) (S2 := 2251799813685247) (v := .bool (y112 == y115)) rfl (by decide +kernel) rfl (q_pickT (btT rfl hc97) rfl) ?_
                                  exact hj99 _ _ _ h rfl
                                · have h := h.2 hc97
                                  refine plan_skip (i := 45) (d := 139) (S2 := 70368744177663) rfl (by decide +kernel) (want_no rfl rfl rfl hc97) ?_
                                  refine plan_skip (i := 46) (d := 140) (S2 := 140737488355327) rfl (by decide +kernel) (want_no rfl rfl rfl hc97) ?_
                                  refine plan_skip (i := 47) (d := 141) (S2 := 281474976710655) rfl (by decide +kernel) (want_no rfl rfl rfl hc97) ?_
                                  refine plan_skip (i := 48) (d := 142) (S2 := 562949953421311) rfl (by decide +kernel) (want_no rfl rfl rfl hc97) ?_
                                  refine plan_skip (i := 49) (d := 143) (S2 := 1125899906842623) rfl (by decide +kernel) (want_no rfl rfl rfl hc97) ?_
                                  refine plan_pure (i := 50) (d := 144) (S2 := 2251799813685247) (v := .bool false) rfl (by decide +kernel) rfl (q_pickF (btF rfl hc97) rfl) ?_
                                  refine plan_weaken (L2 := [47, 40, 32, 21, 10]) (by decide) ?_
                                  exact hj99 _ _ _ h rfl
                            · intro j94 hj94 h
                              rcases bor s88 with hc92 | hc92
                              · have h := h.1 hc92
                                refine plan_pure (i := 38) (d := 132) (S2 := 549755813887) (v := .pointer y7) rfl (by decide +kernel) (want_yes rfl rfl rfl hc92) (q_move e91_9) ?_
                                obtain ⟨x116, hx117, h⟩ := h
                                refine plan_load (i := 40) (d := 134) (S2 := 1649267441663) (v := .agg ([.int .i64 x116.1, .int .i64 x116.2.1, .int .i64 x116.2.2] : List Value).toArray) rfl (by decide +kernel) (want_yes rfl rfl rfl hc92) (q_loadA aggr25 e91_4 hx117) ?_
                                refine plan_one (j := 39) (S2 := 2199023255551) (by decide +kernel) rfl (by decide) (want_yes rfl rfl rfl hc92) ?_
                                refine do_call2 body11 (geom_Geom_Half_s _ _ _ h) rfl ?_
                                rintro _ H118 ⟨y119, rfl, h⟩
                                obtain ⟨hr120, h⟩ := h
                                refine ⟨⟨.inr ⟨_, _, rfl, rfl, q_loadA aggr25 e91_4 hr120⟩, .inl ⟨[34, 37, 39], by decide +kernel, rfl⟩, .inl ⟨[25, 28, 34, 37, 39], by decide +kernel, rfl⟩, .inl ⟨[12, 15, 25, 28, 34, 37, 39], by decide +kernel, rfl⟩, trivial⟩, ?_⟩
                                refine plan_one (j := 41) (S2 := 4398046511103) (by decide +kernel) rfl (by decide) (want_yes rfl rfl rfl hc92) ?_
                                refine do_call2 body32 (keelsonref1_Half_s _ _ _ h) rfl ?_
                                rintro _ H121 ⟨y122, rfl, h⟩
                                refine ⟨⟨.inl ⟨[41], by decide +kernel, rfl⟩, .inl ⟨[34, 37, 41], by decide +kernel, rfl⟩, .inl ⟨[25, 28, 34, 37, 41], by decide +kernel, rfl⟩, .inl ⟨[12, 15, 25, 28, 34, 37, 41], by decide +kernel, rfl⟩, trivial⟩, ?_⟩
                                refine plan_pure (i := 42) (d := 136) (S2 := 8796093022207) (v := .bool (y119 == y122)) rfl (by decide +kernel) (want_yes rfl rfl rfl hc92) (q_eql rfl rfl) ?_
                                refine plan_pure (i := 43) (d := 137) (S2 := 17592186044415) (v := .bool (y119 == y122)) rfl (by decide +kernel) rfl (q_pickT (btT rfl hc92) rfl) ?_
                                exact hj94 _ _ _ h ⟨e91_4, e91_9, rfl⟩
                              · have h := h.2 hc92
                                refine plan_skip (i := 38) (d := 132) (S2 := 549755813887) rfl (by decide +kernel) (want_no rfl rfl rfl hc92) ?_
                                refine plan_skip (i := 39) (d := 133) (S2 := 1099511627775) rfl (by decide +kernel) (want_no rfl rfl rfl hc92) ?_
                                refine plan_skip (i := 40) (d := 134) (S2 := 2199023255551) rfl (by decide +kernel) (want_no rfl rfl rfl hc92) ?_
                                refine plan_skip (i := 41) (d := 135) (S2 := 4398046511103) rfl (by decide +kernel) (want_no rfl rfl rfl hc92) ?_
                                refine plan_skip (i := 42) (d := 136) (S2 := 8796093022207) rfl (by decide +kernel) (want_no rfl rfl rfl hc92) ?_
                                refine plan_pure (i := 43) (d := 137) (S2 := 17592186044415) (v := .bool false) rfl (by decide +kernel) rfl (q_pickF (btF rfl hc92) rfl) ?_
                                refine plan_weaken (L2 := [40, 32, 21, 10]) (by decide) ?_
                                exact hj94 _ _ _ h ⟨e91_4, e91_9, rfl⟩
                          · intro j89 hj89 h
                            rcases bor s83 with hc87 | hc87
                            · have h := h.1 hc87
                              refine plan_pure (i := 29) (d := 123) (S2 := 1073741823) (v := .pointer y7) rfl (by decide +kernel) (want_yes rfl rfl rfl hc87) (q_move e86_9) ?_
                              refine plan_pure (i := 30) (d := 124) (S2 := 2147483647) (v := .int .i64 p1) rfl (by decide +kernel) (want_yes rfl rfl rfl hc87) (q_move e86_1) ?_
                              obtain ⟨x123, hx124, h⟩ := h
                              refine plan_load (i := 32) (d := 126) (S2 := 6442450943) (v := .agg ([.int .i64 x123.1, .int .i64 x123.2.1, .int .i64 x123.2.2] : List Value).toArray) rfl (by decide +kernel) (want_yes rfl rfl rfl hc87) (q_loadA aggr25 e86_4 hx124) ?_
                              refine plan_pure (i := 33) (d := 127) (S2 := 15032385535) (v := .int .i64 p1) rfl (by decide +kernel) (want_yes rfl rfl rfl hc87) (q_move e86_1) ?_
                              refine plan_one (j := 31) (S2 := 17179869183) (by decide +kernel) rfl (by decide) (want_yes rfl rfl rfl hc87) ?_
                              refine do_call2 body13 (geom_Geom_Seg_s _ _ _ _ h) rfl ?_
                              rintro _ H125 ⟨y126, rfl, h⟩
                              obtain ⟨hr127, h⟩ := h
                              refine ⟨⟨.inr ⟨_, _, rfl, rfl, q_loadA aggr25 e86_4 hr127⟩, .inl ⟨[25, 28, 31], by decide +kernel, rfl⟩, .inl ⟨[12, 15, 25, 28, 31], by decide +kernel, rfl⟩, trivial⟩, ?_⟩
                              refine plan_one (j := 34) (S2 := 34359738367) (by decide +kernel) rfl (by decide) (want_yes rfl rfl rfl hc87) ?_
                              refine do_call2 body31 (keelsonref1_SegAt_s _ _ _ _ h) rfl ?_
                              rintro _ H128 ⟨y129, rfl, h⟩
                              refine ⟨⟨.inl ⟨[34], by decide +kernel, rfl⟩, .inl ⟨[25, 28, 34], by decide +kernel, rfl⟩, .inl ⟨[12, 15, 25, 28, 34], by decide +kernel, rfl⟩, trivial⟩, ?_⟩
                              refine plan_pure (i := 35) (d := 129) (S2 := 68719476735) (v := .bool (y126 == y129)) rfl (by decide +kernel) (want_yes rfl rfl rfl hc87) (q_eql rfl rfl) ?_
                              refine plan_pure (i := 36) (d := 130) (S2 := 137438953471) (v := .bool (y126 == y129)) rfl (by decide +kernel) rfl (q_pickT (btT rfl hc87) rfl) ?_
                              exact hj89 _ _ _ h ⟨e86_4, e86_9, rfl⟩
                            · have h := h.2 hc87
                              refine plan_skip (i := 29) (d := 123) (S2 := 1073741823) rfl (by decide +kernel) (want_no rfl rfl rfl hc87) ?_
                              refine plan_skip (i := 30) (d := 124) (S2 := 2147483647) rfl (by decide +kernel) (want_no rfl rfl rfl hc87) ?_
                              refine plan_skip (i := 31) (d := 125) (S2 := 4294967295) rfl (by decide +kernel) (want_no rfl rfl rfl hc87) ?_
                              refine plan_skip (i := 32) (d := 126) (S2 := 8589934591) rfl (by decide +kernel) (want_no rfl rfl rfl hc87) ?_
                              refine plan_skip (i := 33) (d := 127) (S2 := 17179869183) rfl (by decide +kernel) (want_no rfl rfl rfl hc87) ?_
                              refine plan_skip (i := 34) (d := 128) (S2 := 34359738367) rfl (by decide +kernel) (want_no rfl rfl rfl hc87) ?_
                              refine plan_skip (i := 35) (d := 129) (S2 := 68719476735) rfl (by decide +kernel) (want_no rfl rfl rfl hc87) ?_
                              refine plan_pure (i := 36) (d := 130) (S2 := 137438953471) (v := .bool false) rfl (by decide +kernel) rfl (q_pickF (btF rfl hc87) rfl) ?_
                              refine plan_weaken (L2 := [32, 21, 10]) (by decide) ?_
                              exact hj89 _ _ _ h ⟨e86_4, e86_9, rfl⟩
                        · intro j84 hj84 h
                          rcases bor s78 with hc82 | hc82
                          · have h := h.1 hc82
                            refine plan_pure (i := 16) (d := 110) (S2 := 131071) (v := .pointer y7) rfl (by decide +kernel) (want_yes rfl rfl rfl hc82) (q_move e81_9) ?_
                            refine plan_pure (i := 17) (d := 111) (S2 := 262143) (v := .bool p3) rfl (by decide +kernel) (want_yes rfl rfl rfl hc82) (q_move e81_3) ?_
                            refine plan_pure (i := 18) (d := 112) (S2 := 524287) (v := .int .i64 p1) rfl (by decide +kernel) (want_yes rfl rfl rfl hc82) (q_move e81_1) ?_
                            refine plan_pure (i := 19) (d := 113) (S2 := 1048575) (v := .int .i64 p2) rfl (by decide +kernel) (want_yes rfl rfl rfl hc82) (q_move e81_2) ?_
                            obtain ⟨x130, hx131, h⟩ := h
                            refine plan_load (i := 21) (d := 115) (S2 := 3145727) (v := .agg ([.int .i64 x130.1, .int .i64 x130.2.1, .int .i64 x130.2.2] : List Value).toArray) rfl (by decide +kernel) (want_yes rfl rfl rfl hc82) (q_loadA aggr25 e81_4 hx131) ?_
                            refine plan_pure (i := 22) (d := 116) (S2 := 7340031) (v := .bool p3) rfl (by decide +kernel) (want_yes rfl rfl rfl hc82) (q_move e81_3) ?_
                            refine plan_pure (i := 23) (d := 117) (S2 := 15728639) (v := .int .i64 p1) rfl (by decide +kernel) (want_yes rfl rfl rfl hc82) (q_move e81_1) ?_
                            refine plan_pure (i := 24) (d := 118) (S2 := 32505855) (v := .int .i64 p2) rfl (by decide +kernel) (want_yes rfl rfl rfl hc82) (q_move e81_2) ?_
                            refine plan_one (j := 20) (S2 := 33554431) (by decide +kernel) rfl (by decide) (want_yes rfl rfl rfl hc82) ?_
                            refine do_call2 body21 (geom_Geom_Page_s _ _ _ _ _ _ h) rfl ?_
                            rintro _ H132 ⟨y133, rfl, h⟩
                            obtain ⟨hr134, h⟩ := h
                            refine ⟨⟨.inr ⟨_, _, rfl, rfl, q_loadA aggr25 e81_4 hr134⟩, .inl ⟨[12, 15, 20], by decide +kernel, rfl⟩, trivial⟩, ?_⟩
                            refine plan_one (j := 25) (S2 := 67108863) (by decide +kernel) rfl (by decide) (want_yes rfl rfl rfl hc82) ?_
                            refine do_call2 body30 (keelsonref1_PageAt_s _ _ _ _ _ _ h) rfl ?_
                            rintro _ H135 ⟨y136, rfl, h⟩
                            refine ⟨⟨.inl ⟨[25], by decide +kernel, rfl⟩, .inl ⟨[12, 15, 25], by decide +kernel, rfl⟩, trivial⟩, ?_⟩
                            refine plan_pure (i := 26) (d := 120) (S2 := 134217727) (v := .bool (y133 == y136)) rfl (by decide +kernel) (want_yes rfl rfl rfl hc82) (q_eql rfl rfl) ?_
                            refine plan_pure (i := 27) (d := 121) (S2 := 268435455) (v := .bool (y133 == y136)) rfl (by decide +kernel) rfl (q_pickT (btT rfl hc82) rfl) ?_
                            exact hj84 _ _ _ h ⟨e81_1, e81_4, e81_9, rfl⟩
                          · have h := h.2 hc82
                            refine plan_skip (i := 16) (d := 110) (S2 := 131071) rfl (by decide +kernel) (want_no rfl rfl rfl hc82) ?_
                            refine plan_skip (i := 17) (d := 111) (S2 := 262143) rfl (by decide +kernel) (want_no rfl rfl rfl hc82) ?_
                            refine plan_skip (i := 18) (d := 112) (S2 := 524287) rfl (by decide +kernel) (want_no rfl rfl rfl hc82) ?_
                            refine plan_skip (i := 19) (d := 113) (S2 := 1048575) rfl (by decide +kernel) (want_no rfl rfl rfl hc82) ?_
                            refine plan_skip (i := 20) (d := 114) (S2 := 2097151) rfl (by decide +kernel) (want_no rfl rfl rfl hc82) ?_
                            refine plan_skip (i := 21) (d := 115) (S2 := 4194303) rfl (by decide +kernel) (want_no rfl rfl rfl hc82) ?_
                            refine plan_skip (i := 22) (d := 116) (S2 := 8388607) rfl (by decide +kernel) (want_no rfl rfl rfl hc82) ?_
                            refine plan_skip (i := 23) (d := 117) (S2 := 16777215) rfl (by decide +kernel) (want_no rfl rfl rfl hc82) ?_
                            refine plan_skip (i := 24) (d := 118) (S2 := 33554431) rfl (by decide +kernel) (want_no rfl rfl rfl hc82) ?_
                            refine plan_skip (i := 25) (d := 119) (S2 := 67108863) rfl (by decide +kernel) (want_no rfl rfl rfl hc82) ?_
                            refine plan_skip (i := 26) (d := 120) (S2 := 134217727) rfl (by decide +kernel) (want_no rfl rfl rfl hc82) ?_
                            refine plan_pure (i := 27) (d := 121) (S2 := 268435455) (v := .bool false) rfl (by decide +kernel) rfl (q_pickF (btF rfl hc82) rfl) ?_
                            refine plan_weaken (L2 := [21, 10]) (by decide) ?_
                            exact hj84 _ _ _ h ⟨e81_1, e81_4, e81_9, rfl⟩
                      · intro j79 hj79 h
                        rcases bor (y74 == y76) with hc77 | hc77
                        · have h := h.1 hc77
                          refine plan_pure (i := 7) (d := 101) (S2 := 255) (v := .pointer y7) rfl (by decide +kernel) (want_yes rfl rfl rfl hc77) (q_move e71_9) ?_
                          refine plan_pure (i := 8) (d := 102) (S2 := 511) (v := .int .i64 p1) rfl (by decide +kernel) (want_yes rfl rfl rfl hc77) (q_move e71_1) ?_
                          obtain ⟨x137, hx138, h⟩ := h
                          refine plan_load (i := 10) (d := 104) (S2 := 1535) (v := .agg ([.int .i64 x137.1, .int .i64 x137.2.1, .int .i64 x137.2.2] : List Value).toArray) rfl (by decide +kernel) (want_yes rfl rfl rfl hc77) (q_loadA aggr25 e71_4 hx138) ?_
                          refine plan_pure (i := 11) (d := 105) (S2 := 3583) (v := .int .i64 p1) rfl (by decide +kernel) (want_yes rfl rfl rfl hc77) (q_move e71_1) ?_
                          refine plan_one (j := 9) (S2 := 4095) (by decide +kernel) rfl (by decide) (want_yes rfl rfl rfl hc77) ?_
                          refine do_call2 body18 (geom_Geom_Region_s _ _ _ _ h) rfl ?_
                          rintro _ H139 ⟨y140, rfl, h⟩
                          obtain ⟨hr141, h⟩ := h
                          refine ⟨⟨.inr ⟨_, _, rfl, rfl, q_loadA aggr25 e71_4 hr141⟩, trivial⟩, ?_⟩
                          refine plan_one (j := 12) (S2 := 8191) (by decide +kernel) rfl (by decide) (want_yes rfl rfl rfl hc77) ?_
                          refine do_call2 body29 (keelsonref1_RegionAt_s _ _ _ _ h) rfl ?_
                          rintro _ H142 ⟨y143, rfl, h⟩
                          refine ⟨⟨.inl ⟨[12], by decide +kernel, rfl⟩, trivial⟩, ?_⟩
                          refine plan_pure (i := 13) (d := 107) (S2 := 16383) (v := .bool (y140 == y143)) rfl (by decide +kernel) (want_yes rfl rfl rfl hc77) (q_eql rfl rfl) ?_
                          refine plan_pure (i := 14) (d := 108) (S2 := 32767) (v := .bool (y140 == y143)) rfl (by decide +kernel) rfl (q_pickT (btT rfl hc77) rfl) ?_
                          exact hj79 _ _ _ h ⟨e71_1, e71_2, e71_3, e71_4, e71_9, rfl⟩
                        · have h := h.2 hc77
                          refine plan_skip (i := 7) (d := 101) (S2 := 255) rfl (by decide +kernel) (want_no rfl rfl rfl hc77) ?_
                          refine plan_skip (i := 8) (d := 102) (S2 := 511) rfl (by decide +kernel) (want_no rfl rfl rfl hc77) ?_
                          refine plan_skip (i := 9) (d := 103) (S2 := 1023) rfl (by decide +kernel) (want_no rfl rfl rfl hc77) ?_
                          refine plan_skip (i := 10) (d := 104) (S2 := 2047) rfl (by decide +kernel) (want_no rfl rfl rfl hc77) ?_
                          refine plan_skip (i := 11) (d := 105) (S2 := 4095) rfl (by decide +kernel) (want_no rfl rfl rfl hc77) ?_
                          refine plan_skip (i := 12) (d := 106) (S2 := 8191) rfl (by decide +kernel) (want_no rfl rfl rfl hc77) ?_
                          refine plan_skip (i := 13) (d := 107) (S2 := 16383) rfl (by decide +kernel) (want_no rfl rfl rfl hc77) ?_
                          refine plan_pure (i := 14) (d := 108) (S2 := 32767) (v := .bool false) rfl (by decide +kernel) rfl (q_pickF (btF rfl hc77) rfl) ?_
                          refine plan_weaken (L2 := [10]) (by decide) ?_
                          exact hj79 _ _ _ h ⟨e71_1, e71_2, e71_3, e71_4, e71_9, rfl⟩
                  · intro j69 hj69 h
                    rcases bor s63 with hc67 | hc67
                    · have h := h.1 hc67
                      refine plan_skip (i := 28) (d := 88) (S2 := 536870911) rfl (by decide +kernel) (want_no rfl rfl rfl hc67) ?_
                      refine plan_skip (i := 29) (d := 89) (S2 := 1073741823) rfl (by decide +kernel) (want_no rfl rfl rfl hc67) ?_
                      refine plan_skip (i := 30) (d := 90) (S2 := 2147483647) rfl (by decide +kernel) (want_no rfl rfl rfl hc67) ?_
                      refine plan_skip (i := 31) (d := 91) (S2 := 4294967295) rfl (by decide +kernel) (want_no rfl rfl rfl hc67) ?_
                      refine plan_skip (i := 32) (d := 92) (S2 := 8589934591) rfl (by decide +kernel) (want_no rfl rfl rfl hc67) ?_
                      refine plan_pure (i := 33) (d := 93) (S2 := 17179869183) (v := .bool true) rfl (by decide +kernel) rfl (q_pickT (btT rfl hc67) rfl) ?_
                      refine plan_weaken (L2 := [30, 23, 16]) (by decide) ?_
                      exact hj69 _ _ _ h ⟨e66_1, e66_2, e66_3, e66_4, e66_9, rfl⟩
                    · have h := h.2 hc67
                      refine plan_pure (i := 28) (d := 88) (S2 := 536870911) (v := .pointer y7) rfl (by decide +kernel) (want_yes rfl rfl rfl hc67) (q_move e66_9) ?_
                      obtain ⟨x144, hx145, h⟩ := h
                      refine plan_load (i := 30) (d := 90) (S2 := 1610612735) (v := .agg ([.int .i64 x144.1, .int .i64 x144.2.1, .int .i64 x144.2.2] : List Value).toArray) rfl (by decide +kernel) (want_yes rfl rfl rfl hc67) (q_loadA aggr25 e66_4 hx145) ?_
                      refine plan_one (j := 29) (S2 := 2147483647) (by decide +kernel) rfl (by decide) (want_yes rfl rfl rfl hc67) ?_
                      refine do_call2 body15 (geom_Geom_Sectors_s _ _ _ h) rfl ?_
                      rintro _ H146 ⟨y147, rfl, h⟩
                      obtain ⟨hr148, h⟩ := h
                      refine ⟨⟨.inr ⟨_, _, rfl, rfl, q_loadA aggr25 e66_4 hr148⟩, .inl ⟨[24, 27, 29], by decide +kernel, rfl⟩, .inl ⟨[17, 20, 24, 27, 29], by decide +kernel, rfl⟩, trivial⟩, ?_⟩
                      refine plan_one (j := 31) (S2 := 4294967295) (by decide +kernel) rfl (by decide) (want_yes rfl rfl rfl hc67) ?_
                      refine do_call2 body27 (keelsonref1_Sectors_s _ _ _ h) rfl ?_
                      rintro _ H149 ⟨y150, rfl, h⟩
                      refine ⟨⟨.inl ⟨[31], by decide +kernel, rfl⟩, .inl ⟨[24, 27, 31], by decide +kernel, rfl⟩, .inl ⟨[17, 20, 24, 27, 31], by decide +kernel, rfl⟩, trivial⟩, ?_⟩
                      refine plan_pure (i := 32) (d := 92) (S2 := 8589934591) (v := .bool (y147 != y150)) rfl (by decide +kernel) (want_yes rfl rfl rfl hc67) (q_neq rfl rfl) ?_
                      refine plan_pure (i := 33) (d := 93) (S2 := 17179869183) (v := .bool (y147 != y150)) rfl (by decide +kernel) rfl (q_pickF (btF rfl hc67) rfl) ?_
                      exact hj69 _ _ _ h ⟨e66_1, e66_2, e66_3, e66_4, e66_9, rfl⟩
                · intro j64 hj64 h
                  rcases bor s58 with hc62 | hc62
                  · have h := h.1 hc62
                    refine plan_skip (i := 21) (d := 81) (S2 := 4194303) rfl (by decide +kernel) (want_no rfl rfl rfl hc62) ?_
                    refine plan_skip (i := 22) (d := 82) (S2 := 8388607) rfl (by decide +kernel) (want_no rfl rfl rfl hc62) ?_
                    refine plan_skip (i := 23) (d := 83) (S2 := 16777215) rfl (by decide +kernel) (want_no rfl rfl rfl hc62) ?_
                    refine plan_skip (i := 24) (d := 84) (S2 := 33554431) rfl (by decide +kernel) (want_no rfl rfl rfl hc62) ?_
                    refine plan_skip (i := 25) (d := 85) (S2 := 67108863) rfl (by decide +kernel) (want_no rfl rfl rfl hc62) ?_
                    refine plan_pure (i := 26) (d := 86) (S2 := 134217727) (v := .bool true) rfl (by decide +kernel) rfl (q_pickT (btT rfl hc62) rfl) ?_
                    refine plan_weaken (L2 := [23, 16]) (by decide) ?_
                    exact hj64 _ _ _ h ⟨e61_1, e61_2, e61_3, e61_4, e61_9, rfl⟩
                  · have h := h.2 hc62
                    refine plan_pure (i := 21) (d := 81) (S2 := 4194303) (v := .pointer y7) rfl (by decide +kernel) (want_yes rfl rfl rfl hc62) (q_move e61_9) ?_
                    obtain ⟨x151, hx152, h⟩ := h
                    refine plan_load (i := 23) (d := 83) (S2 := 12582911) (v := .agg ([.int .i64 x151.1, .int .i64 x151.2.1, .int .i64 x151.2.2] : List Value).toArray) rfl (by decide +kernel) (want_yes rfl rfl rfl hc62) (q_loadA aggr25 e61_4 hx152) ?_
                    refine plan_one (j := 22) (S2 := 16777215) (by decide +kernel) rfl (by decide) (want_yes rfl rfl rfl hc62) ?_
                    refine do_call2 body19 (geom_Geom_RegionLen_s _ _ _ h) rfl ?_
                    rintro _ H153 ⟨y154, rfl, h⟩
                    obtain ⟨hr155, h⟩ := h
                    refine ⟨⟨.inr ⟨_, _, rfl, rfl, q_loadA aggr25 e61_4 hr155⟩, .inl ⟨[17, 20, 22], by decide +kernel, rfl⟩, trivial⟩, ?_⟩
                    refine plan_one (j := 24) (S2 := 33554431) (by decide +kernel) rfl (by decide) (want_yes rfl rfl rfl hc62) ?_
                    refine do_call2 body26 (keelsonref1_RegionLen_s _ _ _ h) rfl ?_
                    rintro _ H156 ⟨y157, rfl, h⟩
                    refine ⟨⟨.inl ⟨[24], by decide +kernel, rfl⟩, .inl ⟨[17, 20, 24], by decide +kernel, rfl⟩, trivial⟩, ?_⟩
                    refine plan_pure (i := 25) (d := 85) (S2 := 67108863) (v := .bool (y154 != y157)) rfl (by decide +kernel) (want_yes rfl rfl rfl hc62) (q_neq rfl rfl) ?_
                    refine plan_pure (i := 26) (d := 86) (S2 := 134217727) (v := .bool (y154 != y157)) rfl (by decide +kernel) rfl (q_pickF (btF rfl hc62) rfl) ?_
                    exact hj64 _ _ _ h ⟨e61_1, e61_2, e61_3, e61_4, e61_9, rfl⟩
              · intro j59 hj59 h
                rcases bor s53 with hc57 | hc57
                · have h := h.1 hc57
                  refine plan_skip (i := 14) (d := 74) (S2 := 32767) rfl (by decide +kernel) (want_no rfl rfl rfl hc57) ?_
                  refine plan_skip (i := 15) (d := 75) (S2 := 65535) rfl (by decide +kernel) (want_no rfl rfl rfl hc57) ?_
                  refine plan_skip (i := 16) (d := 76) (S2 := 131071) rfl (by decide +kernel) (want_no rfl rfl rfl hc57) ?_
                  refine plan_skip (i := 17) (d := 77) (S2 := 262143) rfl (by decide +kernel) (want_no rfl rfl rfl hc57) ?_
                  refine plan_skip (i := 18) (d := 78) (S2 := 524287) rfl (by decide +kernel) (want_no rfl rfl rfl hc57) ?_
                  refine plan_pure (i := 19) (d := 79) (S2 := 1048575) (v := .bool true) rfl (by decide +kernel) rfl (q_pickT (btT rfl hc57) rfl) ?_
                  refine plan_weaken (L2 := [16]) (by decide) ?_
                  exact hj59 _ _ _ h ⟨e56_1, e56_2, e56_3, e56_4, e56_9, rfl⟩
                · have h := h.2 hc57
                  refine plan_pure (i := 14) (d := 74) (S2 := 32767) (v := .pointer y7) rfl (by decide +kernel) (want_yes rfl rfl rfl hc57) (q_move e56_9) ?_
                  obtain ⟨x158, hx159, h⟩ := h
                  refine plan_load (i := 16) (d := 76) (S2 := 98303) (v := .agg ([.int .i64 x158.1, .int .i64 x158.2.1, .int .i64 x158.2.2] : List Value).toArray) rfl (by decide +kernel) (want_yes rfl rfl rfl hc57) (q_loadA aggr25 e56_4 hx159) ?_
                  refine plan_one (j := 15) (S2 := 131071) (by decide +kernel) rfl (by decide) (want_yes rfl rfl rfl hc57) ?_
                  refine do_call2 body20 (geom_Geom_Pages_s _ _ _ h) rfl ?_
                  rintro _ H160 ⟨y161, rfl, h⟩
                  obtain ⟨hr162, h⟩ := h
                  refine ⟨⟨.inr ⟨_, _, rfl, rfl, q_loadA aggr25 e56_4 hr162⟩, trivial⟩, ?_⟩
                  refine plan_one (j := 17) (S2 := 262143) (by decide +kernel) rfl (by decide) (want_yes rfl rfl rfl hc57) ?_
                  refine do_call2 body25 (keelsonref1_Pages_s _ _ _ h) rfl ?_
                  rintro _ H163 ⟨y164, rfl, h⟩
                  refine ⟨⟨.inl ⟨[17], by decide +kernel, rfl⟩, trivial⟩, ?_⟩
                  refine plan_pure (i := 18) (d := 78) (S2 := 524287) (v := .bool (y161 != y164)) rfl (by decide +kernel) (want_yes rfl rfl rfl hc57) (q_neq rfl rfl) ?_
                  refine plan_pure (i := 19) (d := 79) (S2 := 1048575) (v := .bool (y161 != y164)) rfl (by decide +kernel) rfl (q_pickF (btF rfl hc57) rfl) ?_
                  exact hj59 _ _ _ h ⟨e56_1, e56_2, e56_3, e56_4, e56_9, rfl⟩
            · intro j54 hj54 h
              rcases bor s48 with hc52 | hc52
              · have h := h.1 hc52
                refine plan_skip (i := 9) (d := 69) (S2 := 1023) rfl (by decide +kernel) (want_no rfl rfl rfl hc52) ?_
                refine plan_skip (i := 10) (d := 70) (S2 := 2047) rfl (by decide +kernel) (want_no rfl rfl rfl hc52) ?_
                refine plan_skip (i := 11) (d := 71) (S2 := 4095) rfl (by decide +kernel) (want_no rfl rfl rfl hc52) ?_
                refine plan_pure (i := 12) (d := 72) (S2 := 8191) (v := .bool true) rfl (by decide +kernel) rfl (q_pickT (btT rfl hc52) rfl) ?_
                exact hj54 _ _ _ h ⟨e51_1, e51_2, e51_3, e51_4, e51_9, rfl⟩
              · have h := h.2 hc52
                refine plan_pure (i := 9) (d := 69) (S2 := 1023) (v := .bool y40) rfl (by decide +kernel) (want_yes rfl rfl rfl hc52) (q_move e51_13) ?_
                refine plan_pure (i := 10) (d := 70) (S2 := 2047) (v := .bool y46) rfl (by decide +kernel) (want_yes rfl rfl rfl hc52) (q_move e51_16) ?_
                refine plan_pure (i := 11) (d := 71) (S2 := 4095) (v := .bool (y40 != y46)) rfl (by decide +kernel) (want_yes rfl rfl rfl hc52) (q_neqB Try.underlying4 rfl rfl) ?_
                refine plan_pure (i := 12) (d := 72) (S2 := 8191) (v := .bool (y40 != y46)) rfl (by decide +kernel) rfl (q_pickF (btF rfl hc52) rfl) ?_
                exact hj54 _ _ _ h ⟨e51_1, e51_2, e51_3, e51_4, e51_9, rfl⟩
          · intro j49 hj49 h
            rcases bor (y38 != y44) with hc47 | hc47
            · have h := h.1 hc47
              refine plan_skip (i := 4) (d := 64) (S2 := 31) rfl (by decide +kernel) (want_no rfl rfl rfl hc47) ?_
              refine plan_skip (i := 5) (d := 65) (S2 := 63) rfl (by decide +kernel) (want_no rfl rfl rfl hc47) ?_
              refine plan_skip (i := 6) (d := 66) (S2 := 127) rfl (by decide +kernel) (want_no rfl rfl rfl hc47) ?_
              refine plan_pure (i := 7) (d := 67) (S2 := 255) (v := .bool true) rfl (by decide +kernel) rfl (q_pickT (btT rfl hc47) rfl) ?_
              exact hj49 _ _ _ h ⟨e35_1, e35_2, e35_3, e35_4, e35_9, rfl, rfl, rfl⟩
            · have h := h.2 hc47
              refine plan_pure (i := 4) (d := 64) (S2 := 31) (v := .int .i64 y39) rfl (by decide +kernel) (want_yes rfl rfl rfl hc47) (q_move rfl) ?_
              refine plan_pure (i := 5) (d := 65) (S2 := 63) (v := .int .i64 y45) rfl (by decide +kernel) (want_yes rfl rfl rfl hc47) (q_move rfl) ?_
              refine plan_pure (i := 6) (d := 66) (S2 := 127) (v := .bool (y39 != y45)) rfl (by decide +kernel) (want_yes rfl rfl rfl hc47) (q_neq rfl rfl) ?_
              refine plan_pure (i := 7) (d := 67) (S2 := 255) (v := .bool (y39 != y45)) rfl (by decide +kernel) rfl (q_pickF (btF rfl hc47) rfl) ?_
              exact hj49 _ _ _ h ⟨e35_1, e35_2, e35_3, e35_4, e35_9, rfl, rfl, rfl⟩
      · intro j33 hj33 h
        rcases bor s27 with hc31 | hc31
        · have h := h.1 hc31
          refine plan_skip (i := 7) (d := 41) (S2 := 255) rfl (by decide +kernel) (want_no rfl rfl rfl hc31) ?_
          refine plan_skip (i := 8) (d := 42) (S2 := 511) rfl (by decide +kernel) (want_no rfl rfl rfl hc31) ?_
          refine plan_skip (i := 9) (d := 43) (S2 := 1023) rfl (by decide +kernel) (want_no rfl rfl rfl hc31) ?_
          refine plan_skip (i := 10) (d := 44) (S2 := 2047) rfl (by decide +kernel) (want_no rfl rfl rfl hc31) ?_
          refine plan_pure (i := 11) (d := 45) (S2 := 4095) (v := .bool true) rfl (by decide +kernel) rfl (q_pickT (btT rfl hc31) rfl) ?_
          refine plan_weaken (L2 := [9]) (by decide) ?_
          exact hj33 _ _ _ h ⟨e30_1, e30_2, e30_3, e30_4, e30_9, rfl⟩
        · have h := h.2 hc31
          refine plan_pure (i := 7) (d := 41) (S2 := 255) (v := .pointer y7) rfl (by decide +kernel) (want_yes rfl rfl rfl hc31) (q_move e30_9) ?_
          obtain ⟨x165, hx166, h⟩ := h
          refine plan_load (i := 9) (d := 43) (S2 := 767) (v := .agg ([.int .i64 x165.1, .int .i64 x165.2.1, .int .i64 x165.2.2] : List Value).toArray) rfl (by decide +kernel) (want_yes rfl rfl rfl hc31) (q_loadA aggr25 e30_4 hx166) ?_
          refine plan_one (j := 8) (S2 := 1023) (by decide +kernel) rfl (by decide) (want_yes rfl rfl rfl hc31) ?_
          refine do_call2 body23 (geom_Geom_Config_s _ _ _ h) rfl ?_
          rintro _ H167 ⟨y168, rfl, h⟩
          obtain ⟨hr169, h⟩ := h
          refine ⟨⟨.inr ⟨_, _, rfl, rfl, q_loadA aggr25 e30_4 hr169⟩, trivial⟩, ?_⟩
          refine plan_pure (i := 10) (d := 44) (S2 := 2047) (v := .bool (!(andAll [y168.1 == x165.1, y168.2.1 == x165.2.1, y168.2.2 == x165.2.2]))) rfl (by decide +kernel) (want_yes rfl rfl rfl hc31) (q_neqA eqg25 (eqis_struct Try.underlying25 held25 (.cons (by decide) (eqat_int Try.underlying3 rfl rfl) (.cons (by decide) (eqat_int Try.underlying3 rfl rfl) (.cons (by decide) (eqat_int Try.underlying3 rfl rfl) rfl)))) rfl rfl) ?_
          refine plan_pure (i := 11) (d := 45) (S2 := 4095) (v := .bool (!(andAll [y168.1 == x165.1, y168.2.1 == x165.2.1, y168.2.2 == x165.2.2]))) rfl (by decide +kernel) rfl (q_pickF (btF rfl hc31) rfl) ?_
          exact hj33 _ _ _ h ⟨e30_1, e30_2, e30_3, e30_4, e30_9, rfl⟩
    · intro j28 hj28 h
      rcases bor (y8 != 0) with hc26 | hc26
      · have h := h.1 hc26
        refine plan_skip (i := 3) (d := 37) (S2 := 15) rfl (by decide +kernel) (want_no rfl rfl rfl hc26) ?_
        refine plan_skip (i := 4) (d := 38) (S2 := 31) rfl (by decide +kernel) (want_no rfl rfl rfl hc26) ?_
        refine plan_pure (i := 5) (d := 39) (S2 := 63) (v := .bool true) rfl (by decide +kernel) rfl (q_pickT (btT rfl hc26) rfl) ?_
        exact hj28 _ _ _ h ⟨rfl, rfl, rfl, rfl, rfl, rfl⟩
      · have h := h.2 hc26
        refine plan_pure (i := 3) (d := 37) (S2 := 15) (v := .pointer y7) rfl (by decide +kernel) (want_yes rfl rfl rfl hc26) (q_move rfl) ?_
        refine plan_pure (i := 4) (d := 38) (S2 := 31) (v := .bool (Option.isNone y7)) rfl (by decide +kernel) (want_yes rfl rfl rfl hc26) (q_eqlPn Try.underlying27 rfl rfl) ?_
        refine plan_pure (i := 5) (d := 39) (S2 := 63) (v := .bool (Option.isNone y7)) rfl (by decide +kernel) rfl (q_pickF (btF rfl hc26) rfl) ?_
        exact hj28 _ _ _ h ⟨rfl, rfl, rfl, rfl, rfl, rfl⟩


end Go.Proofs.Ytdadhppapenjkaa

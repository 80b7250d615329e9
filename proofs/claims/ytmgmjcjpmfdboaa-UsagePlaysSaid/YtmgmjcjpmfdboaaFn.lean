import Derived.Test.YtmgmjcjpmfdboaaFnp2
set_option linter.unusedVariables false
set_option linter.unusedSimpArgs false
namespace Go.Proofs.Ytmgmjcjpmfdboaa
open Go Go.Kx Go.Proofs
/-- (*keelson.keelsonref11.Table).Told -/
def keelsonref11_Table_Told (p0 : Option Addr) (p1 : Bool) (H : PH) (Q : Sl → PH → Prop) : Prop :=
  mLoop (fun (s1 : Sl × Int) (H4 : PH) (again2 : (Sl × Int) → PH → Prop) =>
  mNil p0 fun a5 =>
  mLd Sl.v H4 (a5.add 3) fun x7 =>
  mIf (decide (s1.2 < (x7.len : Int)))
  (mNil p0 fun a10 =>
  mLd Sl.v H4 (a10.add 3) fun x12 =>
  mIdx x12 2 s1.2 fun a14 =>
  mLdR (fun (x : (Int × Int)) => [.int .i64 x.1, .int .i64 x.2]) H4 a14 2 fun x16 =>
  mNew H4 (row [.int .i64 0, .int .i64 0] 52) fun a18 H19 =>
  mSt H19 a18 ([.int .i64 x16.1, .int .i64 x16.2]) fun H21 =>
  mJoin (fun (s24 : Bool) (H26 : PH) =>
  mJoin (fun (s29 : Bool) (H31 : PH) =>
  mJoin (fun (s33 : Unit) (H35 : PH) =>
  mLdR (fun (x : (Int × Int)) => [.int .i64 x.1, .int .i64 x.2]) H35 a18 2 fun x37 =>
  mNewS H35 (row [.int .i64 x37.1, .int .i64 x37.2] 52) 1 fun r39 H40 =>
  mApp H40 52 2 16 [.int .i64 0, .int .i64 0] s1.1 r39 fun r42 H43 =>
  again2 (r42, IntKind.wrap .i64 (s1.2 + 1)) H43)
  fun j34 =>
  mIf s29
  (mSt H31 (a18.add 0) ([.int .i64 0]) fun H45 =>
  j34 () H45)
  (j34 () H31))
  fun j30 =>
  mIf s24
  (mNil p0 fun a47 =>
  mLd Sl.v H26 (a47.add 4) fun x49 =>
  mIdx x49 1 s1.2 fun a51 =>
  mLd (.int .i64) H26 a51 fun x53 =>
  j30 (x53 == 0) H26)
  (j30 false H26))
  fun j25 =>
  mIf p1
  (mLd (.int .i64) H21 (a18.add 0) fun x55 =>
  j25 (x55 == 2) H21)
  (j25 false H21))
  (Q s1.1 H4))
  (Sl.nil, 0) H

set_option maxRecDepth 20000 in
set_option maxHeartbeats 1000000 in
theorem keelsonref11_Table_Told_s (p0 : Option Addr) (p1 : Bool) (H : PH) (Q : Sl → PH → Prop) (h : keelsonref11_Table_Told p0 p1 H Q) :
    CallsH Try.prog 53 #[.pointer p0, .bool p1] H (fun v H' => ∃ (r0 : Sl), v = Sl.v r0 ∧ Q r0 H') := by
  unfold keelsonref11_Table_Told at h
  refine callsH_of_go Try.func53 rfl Try.ntmps53 (Nat.le_of_ble_eq_true rfl) ?_
  refine Go.seq ?_
  refine Go.region rfl ?_
  refine GoOps.q (v := Sl.v Sl.nil) rfl rfl (by decide) (q_assign rfl) ?_
  refine GoOps.nil ?_
  refine Go.seq ?_
  refine Go.region rfl ?_
  refine GoOps.q (v := Sl.v Sl.nil) rfl rfl (by decide) (q_assign rfl) ?_
  refine GoOps.nil ?_
  refine Go.seq ?_
  refine Go.seq ?_
  refine Go.region rfl ?_
  refine GoOps.q (v := .int .i64 0) rfl rfl (by decide) (q_assign rfl) ?_
  refine GoOps.nil ?_
  refine Go.block ?_
  refine loop_go (fun ρ (s1 : Sl × Int) => ρ 0 = .pointer p0 ∧ ρ 1 = .bool p1 ∧ ρ 5 = Sl.v s1.1 ∧ ρ 6 = .int .i64 s1.2) h ⟨rfl, rfl, rfl, rfl⟩ ?_
  clear h
  intro ρ s1 H4 again2 hE h hagain2
  obtain ⟨e3_0, e3_1, e3_5, e3_6⟩ := hE
  refine Go.seq ?_
  refine Go.seq ?_
  refine Go.region rfl ?_
  refine GoOps.q (v := .int .i64 s1.2) rfl rfl (by decide) (q_move e3_6) ?_
  refine GoOps.q (v := .pointer p0) rfl rfl (by decide) (q_move e3_0) ?_
  obtain ⟨a5, ha6, h⟩ := h
  refine GoOps.q (v := .pointer (some a5)) rfl rfl (by decide) (q_nilCheck (ptn rfl ha6)) ?_
  refine GoOps.q (v := .pointer (some (a5.add 3))) rfl rfl (by decide) (q_fieldAddr foff81_1 rfl) ?_
  obtain ⟨x7, hx8, h⟩ := h
  refine GoOps.q (v := Sl.v x7) rfl rfl (by decide) (q_load scalar50 rfl hx8) ?_
  refine GoOps.q (v := .int .i64 (x7.len : Int)) rfl rfl (by decide) (q_len Try.underlying50 rfl (ls1 rfl)) ?_
  refine GoOps.q (v := .bool (decide (s1.2 < (x7.len : Int)))) rfl rfl (by decide) (q_lss rfl rfl) ?_
  refine GoOps.nil ?_
  rcases bor (decide (s1.2 < (x7.len : Int))) with hc9 | hc9
  · have h := h.1 hc9
    refine Go.condT (btT rfl hc9) ?_
    refine Go.skip ?_
    refine Go.seq ?_
    refine Go.block ?_
    refine Go.seq ?_
    refine Go.region rfl ?_
    refine GoOps.q (v := .pointer p0) rfl rfl (by decide) (q_move e3_0) ?_
    obtain ⟨a10, ha11, h⟩ := h
    refine GoOps.q (v := .pointer (some a10)) rfl rfl (by decide) (q_nilCheck (ptn rfl ha11)) ?_
    refine GoOps.q (v := .pointer (some (a10.add 3))) rfl rfl (by decide) (q_fieldAddr foff81_1 rfl) ?_
    obtain ⟨x12, hx13, h⟩ := h
    refine GoOps.q (v := Sl.v x12) rfl rfl (by decide) (q_load scalar50 rfl hx13) ?_
    refine GoOps.q (v := .int .i64 s1.2) rfl rfl (by decide) (q_move e3_6) ?_
    obtain ⟨a14, ha15, h⟩ := h
    refine GoOps.q (v := .pointer (some a14)) rfl rfl (by decide) (q_idx slice50 ha15 rfl rfl) ?_
    obtain ⟨x16, hx17, h⟩ := h
    refine GoOps.q (v := .agg ([.int .i64 x16.1, .int .i64 x16.2] : List Value).toArray) rfl rfl (by decide) (q_loadA aggr52 rfl hx17) ?_
    refine op_dst rfl rfl (by decide) (do_new zero52 rfl fun a18 H19 hb20 => ?_) 
    have h := h a18 H19 hb20
    obtain ⟨q22b, q22o, q22c, q22e, hq22a, hq22b, hq22l, hq22v, h⟩ := h
    refine op_none rfl rfl (do_store (vs := [.int .i64 x16.1, .int .i64 x16.2]) size52 (pta rfl hq22a) rfl rfl rfl hq22v hq22b hq22l ?_) 
    refine GoOps.nil ?_
    refine Go.seq ?_
    refine Go.seq ?_
    refine Go.region rfl ?_
    refine GoOps.q (v := .bool p1) rfl rfl (by decide) (q_move e3_1) ?_
    refine GoOps.q (v := .bool p1) rfl rfl (by decide) (q_move rfl) ?_
    refine join_ops 4 (fun ρ (s24 : Bool) => ρ 0 = .pointer p0 ∧ ρ 1 = .bool p1 ∧ ρ 5 = Sl.v s1.1 ∧ ρ 6 = .int .i64 s1.2 ∧ ρ 7 = .pointer (some a18) ∧ ρ 29 = .bool s24) h ?_ ?_ <;> clear h
    · intro s24 H26 ρ h hE
      obtain ⟨e27_0, e27_1, e27_5, e27_6, e27_7, e27_29⟩ := hE
      refine GoOps.q (v := .bool s24) rfl rfl (by decide) (q_move e27_29) ?_
      refine join_ops 9 (fun ρ (s29 : Bool) => ρ 0 = .pointer p0 ∧ ρ 1 = .bool p1 ∧ ρ 5 = Sl.v s1.1 ∧ ρ 6 = .int .i64 s1.2 ∧ ρ 7 = .pointer (some a18) ∧ ρ 39 = .bool s29) h ?_ ?_ <;> clear h
      · intro s29 H31 ρ h hE
        obtain ⟨e32_0, e32_1, e32_5, e32_6, e32_7, e32_39⟩ := hE
        refine GoOps.nil ?_
        refine join_go 1 (fun ρ (s33 : Unit) => ρ 0 = .pointer p0 ∧ ρ 1 = .bool p1 ∧ ρ 5 = Sl.v s1.1 ∧ ρ 6 = .int .i64 s1.2 ∧ ρ 7 = .pointer (some a18)) h ?_ ?_ <;> clear h
        · intro s33 H35 ρ h hE
          obtain ⟨e36_0, e36_1, e36_5, e36_6, e36_7⟩ := hE
          refine Go.region rfl ?_
          refine GoOps.q (v := Sl.v s1.1) rfl rfl (by decide) (q_move e36_5) ?_
          obtain ⟨x37, hx38, h⟩ := h
          refine GoOps.q (v := .agg ([.int .i64 x37.1, .int .i64 x37.2] : List Value).toArray) rfl rfl (by decide) (q_loadA aggr52 e36_7 hx38) ?_
          refine op_dst rfl rfl (by decide) (do_bs (ps := [(0, .agg ([.int .i64 x37.1, .int .i64 x37.2] : List Value).toArray)]) (zs := [.int .i64 0, .int .i64 0]) (cs := [.int .i64 x37.1, .int .i64 x37.2]) slice50 zero52 rfl rfl (by decide) (by decide) rfl (fillS_cat (tot := 2) (css := [[.int .i64 x37.1, .int .i64 x37.2]]) (.cons rfl rfl rfl (.nil rfl)) rfl) fun r39 H40 hb41 => ?_) 
          have h := h r39 H40 hb41
          refine op_dst rfl rfl (by decide) (do_append (zs := [.int .i64 0, .int .i64 0]) slice50 bytes52 (by decide) zero52 rfl rfl (by decide) rfl rfl Try.underlying50 rfl h fun r42 H43 h => ?_) 
          refine GoOps.q (v := Sl.v r42) rfl rfl (by decide) (q_assign rfl) ?_
          refine GoOps.nil ?_
          refine Go.inBlock ?_
          refine Go.region rfl ?_
          refine GoOps.q (v := .int .i64 s1.2) rfl rfl (by decide) (q_move e36_6) ?_
          refine GoOps.q (v := .int .i64 (IntKind.wrap .i64 (s1.2 + 1))) rfl rfl (by decide) (q_add rfl rfl) ?_
          refine GoOps.q (v := .int .i64 (IntKind.wrap .i64 (s1.2 + 1))) rfl rfl (by decide) (q_assign rfl) ?_
          refine GoOps.nil ?_
          exact hagain2 _ _ _ h ⟨e36_0, e36_1, rfl, rfl⟩
        · intro j34 hj34 h
          rcases bor s29 with hc44 | hc44
          · have h := h.1 hc44
            refine Go.condT (btT e32_39 hc44) ?_
            refine Go.region rfl ?_
            refine GoOps.q (v := .pointer (some (a18.add 0))) rfl rfl (by decide) (q_fieldAddr foff52_0 e32_7) ?_
            obtain ⟨q46b, q46o, q46c, q46e, hq46a, hq46b, hq46l, hq46v, h⟩ := h
            refine op_none rfl rfl (do_store (vs := [.int .i64 0]) size3 (pta rfl hq46a) rfl rfl rfl hq46v hq46b hq46l ?_) 
            refine GoOps.nil ?_
            exact hj34 _ _ _ h ⟨e32_0, e32_1, e32_5, e32_6, e32_7⟩
          · have h := h.2 hc44
            refine Go.condF (btF e32_39 hc44) ?_
            refine Go.skip ?_
            exact hj34 _ _ _ h ⟨e32_0, e32_1, e32_5, e32_6, e32_7⟩
      · intro j30 hj30 h
        rcases bor s24 with hc28 | hc28
        · have h := h.1 hc28
          refine GoOps.q (v := .pointer p0) (want_yes rfl rfl rfl hc28) rfl (by decide) (q_move e27_0) ?_
          obtain ⟨a47, ha48, h⟩ := h
          refine GoOps.q (v := .pointer (some a47)) (want_yes rfl rfl rfl hc28) rfl (by decide) (q_nilCheck (ptn rfl ha48)) ?_
          refine GoOps.q (v := .pointer (some (a47.add 4))) (want_yes rfl rfl rfl hc28) rfl (by decide) (q_fieldAddr foff81_2 rfl) ?_
          obtain ⟨x49, hx50, h⟩ := h
          refine GoOps.q (v := Sl.v x49) (want_yes rfl rfl rfl hc28) rfl (by decide) (q_load scalar23 rfl hx50) ?_
          refine GoOps.q (v := .int .i64 s1.2) (want_yes rfl rfl rfl hc28) rfl (by decide) (q_move e27_6) ?_
          obtain ⟨a51, ha52, h⟩ := h
          refine GoOps.q (v := .pointer (some a51)) (want_yes rfl rfl rfl hc28) rfl (by decide) (q_idx slice23 ha52 rfl rfl) ?_
          obtain ⟨x53, hx54, h⟩ := h
          refine GoOps.q (v := .int .i64 x53) (want_yes rfl rfl rfl hc28) rfl (by decide) (q_load scalar3 rfl hx54) ?_
          refine GoOps.q (v := .bool (x53 == 0)) (want_yes rfl rfl rfl hc28) rfl (by decide) (q_eql rfl rfl) ?_
          refine GoOps.q (v := .bool (x53 == 0)) rfl rfl (by decide) (q_pickT (btT rfl hc28) rfl) ?_
          exact hj30 (x53 == 0) _ _ h (by exact ⟨e27_0, e27_1, e27_5, e27_6, e27_7, rfl⟩)
        · have h := h.2 hc28
          refine no_dst (want_no rfl rfl rfl hc28) rfl (by decide) ?_
          refine no_dst (want_no rfl rfl rfl hc28) rfl (by decide) ?_
          refine no_dst (want_no rfl rfl rfl hc28) rfl (by decide) ?_
          refine no_dst (want_no rfl rfl rfl hc28) rfl (by decide) ?_
          refine no_dst (want_no rfl rfl rfl hc28) rfl (by decide) ?_
          refine no_dst (want_no rfl rfl rfl hc28) rfl (by decide) ?_
          refine no_dst (want_no rfl rfl rfl hc28) rfl (by decide) ?_
          refine no_dst (want_no rfl rfl rfl hc28) rfl (by decide) ?_
          refine GoOps.q (v := .bool false) rfl rfl (by decide) (q_pickF (btF rfl hc28) rfl) ?_
          exact hj30 false _ _ h (by exact ⟨e27_0, e27_1, e27_5, e27_6, e27_7, rfl⟩)
    · intro j25 hj25 h
      rcases bor p1 with hc23 | hc23
      · have h := h.1 hc23
        refine GoOps.q (v := .pointer (some (a18.add 0))) (want_yes rfl rfl rfl hc23) rfl (by decide) (q_fieldAddr foff52_0 rfl) ?_
        obtain ⟨x55, hx56, h⟩ := h
        refine GoOps.q (v := .int .i64 x55) (want_yes rfl rfl rfl hc23) rfl (by decide) (q_load scalar3 rfl hx56) ?_
        refine GoOps.q (v := .bool (x55 == 2)) (want_yes rfl rfl rfl hc23) rfl (by decide) (q_eql rfl rfl) ?_
        refine GoOps.q (v := .bool (x55 == 2)) rfl rfl (by decide) (q_pickT (btT rfl hc23) rfl) ?_
        exact hj25 (x55 == 2) _ _ h (by exact ⟨e3_0, e3_1, e3_5, e3_6, rfl, rfl⟩)
      · have h := h.2 hc23
        refine no_dst (want_no rfl rfl rfl hc23) rfl (by decide) ?_
        refine no_dst (want_no rfl rfl rfl hc23) rfl (by decide) ?_
        refine no_dst (want_no rfl rfl rfl hc23) rfl (by decide) ?_
        refine GoOps.q (v := .bool false) rfl rfl (by decide) (q_pickF (btF rfl hc23) rfl) ?_
        exact hj25 false _ _ h (by exact ⟨e3_0, e3_1, e3_5, e3_6, rfl, rfl⟩)
  · have h := h.2 hc9
    refine Go.condF (btF rfl hc9) ?_
    refine Go.exit rfl ?_
    refine Go.seq ?_
    refine Go.region rfl ?_
    refine GoOps.q (v := Sl.v s1.1) rfl rfl (by decide) (q_move e3_5) ?_
    refine GoOps.q (v := Sl.v s1.1) rfl rfl (by decide) (q_assign rfl) ?_
    refine GoOps.nil ?_
    exact Go.ret ⟨.inl rfl, _, _, DOk.nil, (resOk1 Try.results53 rfl), ⟨_, rfl, h⟩⟩

/-- (*keelson.keelsonref11.Table).Sealed -/
def keelsonref11_Table_Sealed (p0 : Option Addr) (H : PH) (Q : Sl → PH → Prop) : Prop :=
  mLoop (fun (s1 : Sl × Int) (H4 : PH) (again2 : (Sl × Int) → PH → Prop) =>
  mNil p0 fun a5 =>
  mLd Sl.v H4 (a5.add 3) fun x7 =>
  mIf (decide (s1.2 < (x7.len : Int)))
  (mJoin (fun (s10 : Sl) (H12 : PH) =>
  again2 (s10, IntKind.wrap .i64 (s1.2 + 1)) H12)
  fun j11 =>
  mNil p0 fun a14 =>
  mLd Sl.v H4 (a14.add 3) fun x16 =>
  mIdx x16 2 s1.2 fun a18 =>
  mLd (.int .i64) H4 (a18.add 0) fun x20 =>
  mIf (x20 == 2)
  (mNewS H4 (row [.int .i64 s1.2] 3) 1 fun r23 H24 =>
  mApp H24 3 1 8 [.int .i64 0] s1.1 r23 fun r26 H27 =>
  j11 r26 H27)
  (j11 s1.1 H4))
  (Q s1.1 H4))
  (Sl.nil, 0) H

set_option maxRecDepth 20000 in
set_option maxHeartbeats 1000000 in
theorem keelsonref11_Table_Sealed_s (p0 : Option Addr) (H : PH) (Q : Sl → PH → Prop) (h : keelsonref11_Table_Sealed p0 H Q) :
    CallsH Try.prog 54 #[.pointer p0] H (fun v H' => ∃ (r0 : Sl), v = Sl.v r0 ∧ Q r0 H') := by
  unfold keelsonref11_Table_Sealed at h
  refine callsH_of_go Try.func54 rfl Try.ntmps54 (Nat.le_of_ble_eq_true rfl) ?_
  refine Go.seq ?_
  refine Go.region rfl ?_
  refine GoOps.q (v := Sl.v Sl.nil) rfl rfl (by decide) (q_assign rfl) ?_
  refine GoOps.nil ?_
  refine Go.seq ?_
  refine Go.region rfl ?_
  refine GoOps.q (v := Sl.v Sl.nil) rfl rfl (by decide) (q_assign rfl) ?_
  refine GoOps.nil ?_
  refine Go.seq ?_
  refine Go.seq ?_
  refine Go.region rfl ?_
  refine GoOps.q (v := .int .i64 0) rfl rfl (by decide) (q_assign rfl) ?_
  refine GoOps.nil ?_
  refine Go.block ?_
  refine loop_go (fun ρ (s1 : Sl × Int) => ρ 0 = .pointer p0 ∧ ρ 3 = Sl.v s1.1 ∧ ρ 4 = .int .i64 s1.2) h ⟨rfl, rfl, rfl⟩ ?_
  clear h
  intro ρ s1 H4 again2 hE h hagain2
  obtain ⟨e3_0, e3_3, e3_4⟩ := hE
  refine Go.seq ?_
  refine Go.seq ?_
  refine Go.region rfl ?_
  refine GoOps.q (v := .int .i64 s1.2) rfl rfl (by decide) (q_move e3_4) ?_
  refine GoOps.q (v := .pointer p0) rfl rfl (by decide) (q_move e3_0) ?_
  obtain ⟨a5, ha6, h⟩ := h
  refine GoOps.q (v := .pointer (some a5)) rfl rfl (by decide) (q_nilCheck (ptn rfl ha6)) ?_
  refine GoOps.q (v := .pointer (some (a5.add 3))) rfl rfl (by decide) (q_fieldAddr foff81_1 rfl) ?_
  obtain ⟨x7, hx8, h⟩ := h
  refine GoOps.q (v := Sl.v x7) rfl rfl (by decide) (q_load scalar50 rfl hx8) ?_
  refine GoOps.q (v := .int .i64 (x7.len : Int)) rfl rfl (by decide) (q_len Try.underlying50 rfl (ls1 rfl)) ?_
  refine GoOps.q (v := .bool (decide (s1.2 < (x7.len : Int)))) rfl rfl (by decide) (q_lss rfl rfl) ?_
  refine GoOps.nil ?_
  rcases bor (decide (s1.2 < (x7.len : Int))) with hc9 | hc9
  · have h := h.1 hc9
    refine Go.condT (btT rfl hc9) ?_
    refine Go.skip ?_
    refine Go.seq ?_
    refine join_go 1 (fun ρ (s10 : Sl) => ρ 0 = .pointer p0 ∧ ρ 3 = Sl.v s10 ∧ ρ 4 = .int .i64 s1.2) h ?_ ?_ <;> clear h
    · intro s10 H12 ρ h hE
      obtain ⟨e13_0, e13_3, e13_4⟩ := hE
      refine Go.region rfl ?_
      refine GoOps.q (v := .int .i64 s1.2) rfl rfl (by decide) (q_move e13_4) ?_
      refine GoOps.q (v := .int .i64 (IntKind.wrap .i64 (s1.2 + 1))) rfl rfl (by decide) (q_add rfl rfl) ?_
      refine GoOps.q (v := .int .i64 (IntKind.wrap .i64 (s1.2 + 1))) rfl rfl (by decide) (q_assign rfl) ?_
      refine GoOps.nil ?_
      exact hagain2 _ _ _ h ⟨e13_0, e13_3, rfl⟩
    · intro j11 hj11 h
      refine Go.block ?_
      refine Go.seq ?_
      refine Go.region rfl ?_
      refine GoOps.q (v := .pointer p0) rfl rfl (by decide) (q_move e3_0) ?_
      obtain ⟨a14, ha15, h⟩ := h
      refine GoOps.q (v := .pointer (some a14)) rfl rfl (by decide) (q_nilCheck (ptn rfl ha15)) ?_
      refine GoOps.q (v := .pointer (some (a14.add 3))) rfl rfl (by decide) (q_fieldAddr foff81_1 rfl) ?_
      obtain ⟨x16, hx17, h⟩ := h
      refine GoOps.q (v := Sl.v x16) rfl rfl (by decide) (q_load scalar50 rfl hx17) ?_
      refine GoOps.q (v := .int .i64 s1.2) rfl rfl (by decide) (q_move e3_4) ?_
      obtain ⟨a18, ha19, h⟩ := h
      refine GoOps.q (v := .pointer (some a18)) rfl rfl (by decide) (q_idx slice50 ha19 rfl rfl) ?_
      refine GoOps.q (v := .pointer (some (a18.add 0))) rfl rfl (by decide) (q_fieldAddr foff52_0 rfl) ?_
      obtain ⟨x20, hx21, h⟩ := h
      refine GoOps.q (v := .int .i64 x20) rfl rfl (by decide) (q_load scalar3 rfl hx21) ?_
      refine GoOps.q (v := .bool (x20 == 2)) rfl rfl (by decide) (q_eql rfl rfl) ?_
      refine GoOps.nil ?_
      rcases bor (x20 == 2) with hc22 | hc22
      · have h := h.1 hc22
        refine Go.condT (btT rfl hc22) ?_
        refine Go.region rfl ?_
        refine GoOps.q (v := Sl.v s1.1) rfl rfl (by decide) (q_move e3_3) ?_
        refine GoOps.q (v := .int .i64 s1.2) rfl rfl (by decide) (q_move e3_4) ?_
        refine op_dst rfl rfl (by decide) (do_bs (ps := [(0, .int .i64 s1.2)]) (zs := [.int .i64 0]) (cs := [.int .i64 s1.2]) slice23 zero3 rfl rfl (by decide) (by decide) rfl rfl fun r23 H24 hb25 => ?_) 
        have h := h r23 H24 hb25
        refine op_dst rfl rfl (by decide) (do_append (zs := [.int .i64 0]) slice23 bytes3 (by decide) zero3 rfl rfl (by decide) rfl rfl Try.underlying23 rfl h fun r26 H27 h => ?_) 
        refine GoOps.q (v := Sl.v r26) rfl rfl (by decide) (q_assign rfl) ?_
        refine GoOps.nil ?_
        refine Go.inBlock ?_
        exact hj11 _ _ _ h ⟨e3_0, rfl, e3_4⟩
      · have h := h.2 hc22
        refine Go.condF (btF rfl hc22) ?_
        refine Go.skip ?_
        refine Go.inBlock ?_
        exact hj11 _ _ _ h ⟨e3_0, e3_3, e3_4⟩
  · have h := h.2 hc9
    refine Go.condF (btF rfl hc9) ?_
    refine Go.exit rfl ?_
    refine Go.seq ?_
    refine Go.region rfl ?_
    refine GoOps.q (v := Sl.v s1.1) rfl rfl (by decide) (q_move e3_3) ?_
    refine GoOps.q (v := Sl.v s1.1) rfl rfl (by decide) (q_assign rfl) ?_
    refine GoOps.nil ?_
    exact Go.ret ⟨.inl rfl, _, _, DOk.nil, (resOk1 Try.results54 rfl), ⟨_, rfl, h⟩⟩

/-- keelson.keelsonlaw12.same -/
def keelsonlaw12_same (p0 : Option Addr) (p1 : Option Addr) (H : PH) (Q : Bool → PH → Prop) : Prop :=
  mLoop (fun (s1 : Int) (H4 : PH) (again2 : Int → PH → Prop) =>
  mNil p1 fun a5 =>
  mLd Sl.v H4 (a5.add 3) fun x7 =>
  mIf (decide (s1 ≤ (x7.len : Int)))
  (keelsonref11_Table_Use p1 s1 H4 fun y11 H10 =>
  mNew H10 (row [.int .i64 0, .int .i64 0] 52) fun a12 H13 =>
  mSt H13 a12 ([.int .i64 y11.1, .int .i64 y11.2]) fun H15 =>
  mLd (.int .i64) H15 (a12.add 0) fun x17 =>
  usage_Table_State p0 s1 H15 fun y20 H19 =>
  mSame H19 (a12.add 0) (.int .i64 x17) <|
  mJoin (fun (s23 : Bool) (H25 : PH) =>
  mJoin (fun (s28 : Bool) (H30 : PH) =>
  mIf s28
  (Q false H30)
  (again2 (IntKind.wrap .i64 (s1 + 1)) H30))
  fun j29 =>
  mIf s23
  (j29 true H25)
  (usage_Table_Live p0 s1 H25 fun y34 H33 =>
  keelsonref11_Table_Lives p1 s1 H33 fun y36 H35 =>
  j29 (y34 != y36) H35))
  fun j24 =>
  mIf (y20 != x17)
  (j24 true H19)
  (mLd (.int .i64) H19 (a12.add 1) fun x37 =>
  usage_Table_Stamp p0 s1 H19 fun y40 H39 =>
  mSame H39 (a12.add 1) (.int .i64 x37) <|
  j24 (y40 != x37) H39))
  (usage_Table_Free p0 H4 fun y43 H42 =>
  keelsonref11_Table_Free p1 H42 fun y45 H44 =>
  mJoin (fun (s47 : Bool) (H49 : PH) =>
  mJoin (fun (s52 : Bool) (H54 : PH) =>
  mJoin (fun (s57 : Bool) (H59 : PH) =>
  Q s57 H59)
  fun j58 =>
  mIf s52
  (keelsonlaw12_sealed p0 99 H54 fun y62 H61 =>
  keelsonref11_Table_Sealed p1 H61 fun y64 H63 =>
  keelsonalike_Ints y62 y64 H63 fun y66 H65 =>
  j58 y66 H65)
  (j58 false H54))
  fun j53 =>
  mIf s47
  (usage_Table_Uses p0 true H49 fun y68 H67 =>
  keelsonref11_Table_Told p1 true H67 fun y70 H69 =>
  keelsonalike_Uses y68 y70 H69 fun y72 H71 =>
  j53 y72 H71)
  (j53 false H49))
  fun j48 =>
  mIf (y43 == y45)
  (usage_Table_Uses p0 false H44 fun y74 H73 =>
  keelsonref11_Table_Told p1 false H73 fun y76 H75 =>
  keelsonalike_Uses y74 y76 H75 fun y78 H77 =>
  j48 y78 H77)
  (j48 false H44)))
  (-1) H

set_option maxRecDepth 20000 in
set_option maxHeartbeats 1000000 in
theorem keelsonlaw12_same_s (p0 : Option Addr) (p1 : Option Addr) (H : PH) (Q : Bool → PH → Prop) (h : keelsonlaw12_same p0 p1 H Q) :
    CallsH Try.prog 28 #[.pointer p0, .pointer p1] H (fun v H' => ∃ (r0 : Bool), v = .bool r0 ∧ Q r0 H') := by
  unfold keelsonlaw12_same at h
  refine callsH_of_go Try.func28 rfl Try.ntmps28 (Nat.le_of_ble_eq_true rfl) ?_
  refine Go.seq ?_
  refine Go.region rfl ?_
  refine GoOps.q (v := .bool false) rfl rfl (by decide) (q_assign rfl) ?_
  refine GoOps.nil ?_
  refine Go.seq ?_
  refine Go.seq ?_
  refine Go.region rfl ?_
  refine GoOps.q (v := .int .i64 (-1)) rfl rfl (by decide) (q_assign rfl) ?_
  refine GoOps.nil ?_
  refine Go.block ?_
  refine loop_go (fun ρ (s1 : Int) => ρ 0 = .pointer p0 ∧ ρ 1 = .pointer p1 ∧ ρ 5 = .int .i64 s1) h ⟨rfl, rfl, rfl⟩ ?_
  clear h
  intro ρ s1 H4 again2 hE h hagain2
  obtain ⟨e3_0, e3_1, e3_5⟩ := hE
  refine Go.seq ?_
  refine Go.seq ?_
  refine Go.region rfl ?_
  refine GoOps.q (v := .int .i64 s1) rfl rfl (by decide) (q_move e3_5) ?_
  refine GoOps.q (v := .pointer p1) rfl rfl (by decide) (q_move e3_1) ?_
  obtain ⟨a5, ha6, h⟩ := h
  refine GoOps.q (v := .pointer (some a5)) rfl rfl (by decide) (q_nilCheck (ptn rfl ha6)) ?_
  refine GoOps.q (v := .pointer (some (a5.add 3))) rfl rfl (by decide) (q_fieldAddr foff81_1 rfl) ?_
  obtain ⟨x7, hx8, h⟩ := h
  refine GoOps.q (v := Sl.v x7) rfl rfl (by decide) (q_load scalar50 rfl hx8) ?_
  refine GoOps.q (v := .int .i64 (x7.len : Int)) rfl rfl (by decide) (q_len Try.underlying50 rfl (ls1 rfl)) ?_
  refine GoOps.q (v := .bool (decide (s1 ≤ (x7.len : Int)))) rfl rfl (by decide) (q_leq rfl rfl) ?_
  refine GoOps.nil ?_
  rcases bor (decide (s1 ≤ (x7.len : Int))) with hc9 | hc9
  · have h := h.1 hc9
    refine Go.condT (btT rfl hc9) ?_
    refine Go.skip ?_
    refine Go.seq ?_
    refine Go.block ?_
    refine Go.seq ?_
    refine Go.region rfl ?_
    refine GoOps.q (v := .pointer p1) rfl rfl (by decide) (q_move e3_1) ?_
    refine GoOps.q (v := .int .i64 s1) rfl rfl (by decide) (q_move e3_5) ?_
    refine call_dst rfl (by decide) body49 (keelsonref11_Table_Use_s _ _ _ _ h) rfl ?_
    rintro _ H10 ⟨y11, rfl, h⟩
    refine op_dst rfl rfl (by decide) (do_new zero52 rfl fun a12 H13 hb14 => ?_) 
    have h := h a12 H13 hb14
    obtain ⟨q16b, q16o, q16c, q16e, hq16a, hq16b, hq16l, hq16v, h⟩ := h
    refine op_none rfl rfl (do_store (vs := [.int .i64 y11.1, .int .i64 y11.2]) size52 (pta rfl hq16a) rfl rfl rfl hq16v hq16b hq16l ?_) 
    refine GoOps.nil ?_
    refine Go.seq ?_
    refine Go.draw mixed ?_
    refine plan_pure (i := 0) (d := 19) (S2 := 1) (v := .pointer p0) rfl (by decide +kernel) rfl (q_move e3_0) ?_
    refine plan_pure (i := 1) (d := 20) (S2 := 3) (v := .int .i64 s1) rfl (by decide +kernel) rfl (q_move e3_5) ?_
    refine plan_pure (i := 3) (d := 22) (S2 := 11) (v := .pointer (some (a12.add 0))) rfl (by decide +kernel) rfl (q_fieldAddr foff52_0 rfl) ?_
    obtain ⟨x17, hx18, h⟩ := h
    refine plan_load (i := 4) (d := 23) (S2 := 27) (v := .int .i64 x17) rfl (by decide +kernel) rfl (q_load scalar3 rfl hx18) ?_
    refine plan_one (j := 2) (S2 := 31) (by decide +kernel) rfl (by decide) rfl ?_
    refine do_call2 body14 (usage_Table_State_s _ _ _ _ h) rfl ?_
    rintro _ H19 ⟨y20, rfl, h⟩
    obtain ⟨hr21, h⟩ := h
    refine ⟨_, (.inr ⟨⟨_, _, rfl, rfl, q_load scalar3 rfl hr21⟩, _, rfl, rfl⟩), ?_⟩
    refine plan_pure (i := 5) (d := 24) (S2 := 63) (v := .bool (y20 != x17)) rfl (by decide +kernel) rfl (q_neq rfl rfl) ?_
    refine plan_pure (i := 6) (d := 25) (S2 := 127) (v := .bool (y20 != x17)) rfl (by decide +kernel) rfl (q_move rfl) ?_
    refine join_plan 16383 [11, 4] (fun ρ (s23 : Bool) => ρ 0 = .pointer p0 ∧ ρ 1 = .pointer p1 ∧ ρ 5 = .int .i64 s1 ∧ ρ 32 = .bool s23) h ?_ ?_ <;> clear h
    · intro s23 H25 ρ h hE
      obtain ⟨e26_0, e26_1, e26_5, e26_32⟩ := hE
      refine plan_pure (i := 14) (d := 33) (S2 := 32767) (v := .bool s23) rfl (by decide +kernel) rfl (q_move e26_32) ?_
      refine join_plan 8388607 [11, 4] (fun ρ (s28 : Bool) => ρ 0 = .pointer p0 ∧ ρ 1 = .pointer p1 ∧ ρ 5 = .int .i64 s1 ∧ ρ 41 = .bool s28) h ?_ ?_ <;> clear h
      · intro s28 H30 ρ h hE
        obtain ⟨e31_0, e31_1, e31_5, e31_41⟩ := hE
        refine plan_done (by decide +kernel) ?_
        rcases bor s28 with hc32 | hc32
        · have h := h.1 hc32
          refine Go.condT (btT e31_41 hc32) ?_
          refine Go.seq ?_
          refine Go.region rfl ?_
          refine GoOps.q (v := .bool false) rfl rfl (by decide) (q_assign rfl) ?_
          refine GoOps.nil ?_
          exact Go.ret ⟨.inl rfl, _, _, DOk.nil, (resOk1 Try.results28 rfl), ⟨_, rfl, h⟩⟩
        · have h := h.2 hc32
          refine Go.condF (btF e31_41 hc32) ?_
          refine Go.skip ?_
          refine Go.inBlock ?_
          refine Go.region rfl ?_
          refine GoOps.q (v := .int .i64 s1) rfl rfl (by decide) (q_move e31_5) ?_
          refine GoOps.q (v := .int .i64 (IntKind.wrap .i64 (s1 + 1))) rfl rfl (by decide) (q_add rfl rfl) ?_
          refine GoOps.q (v := .int .i64 (IntKind.wrap .i64 (s1 + 1))) rfl rfl (by decide) (q_assign rfl) ?_
          refine GoOps.nil ?_
          exact hagain2 _ _ _ h ⟨e31_0, e31_1, rfl⟩
      · intro j29 hj29 h
        rcases bor s23 with hc27 | hc27
        · have h := h.1 hc27
          refine plan_skip (i := 15) (d := 34) (S2 := 65535) rfl (by decide +kernel) (want_no rfl rfl rfl hc27) ?_
          refine plan_skip (i := 16) (d := 35) (S2 := 131071) rfl (by decide +kernel) (want_no rfl rfl rfl hc27) ?_
          refine plan_skip (i := 17) (d := 36) (S2 := 262143) rfl (by decide +kernel) (want_no rfl rfl rfl hc27) ?_
          refine plan_skip (i := 18) (d := 37) (S2 := 524287) rfl (by decide +kernel) (want_no rfl rfl rfl hc27) ?_
          refine plan_skip (i := 19) (d := 38) (S2 := 1048575) rfl (by decide +kernel) (want_no rfl rfl rfl hc27) ?_
          refine plan_skip (i := 20) (d := 39) (S2 := 2097151) rfl (by decide +kernel) (want_no rfl rfl rfl hc27) ?_
          refine plan_skip (i := 21) (d := 40) (S2 := 4194303) rfl (by decide +kernel) (want_no rfl rfl rfl hc27) ?_
          refine plan_pure (i := 22) (d := 41) (S2 := 8388607) (v := .bool true) rfl (by decide +kernel) rfl (q_pickT (btT rfl hc27) rfl) ?_
          exact hj29 _ _ _ h ⟨e26_0, e26_1, e26_5, rfl⟩
        · have h := h.2 hc27
          refine plan_pure (i := 15) (d := 34) (S2 := 65535) (v := .pointer p0) rfl (by decide +kernel) (want_yes rfl rfl rfl hc27) (q_move e26_0) ?_
          refine plan_pure (i := 16) (d := 35) (S2 := 131071) (v := .int .i64 s1) rfl (by decide +kernel) (want_yes rfl rfl rfl hc27) (q_move e26_5) ?_
          refine plan_pure (i := 18) (d := 37) (S2 := 393215) (v := .pointer p1) rfl (by decide +kernel) (want_yes rfl rfl rfl hc27) (q_move e26_1) ?_
          refine plan_pure (i := 19) (d := 38) (S2 := 917503) (v := .int .i64 s1) rfl (by decide +kernel) (want_yes rfl rfl rfl hc27) (q_move e26_5) ?_
          refine plan_one (j := 17) (S2 := 1048575) (by decide +kernel) rfl (by decide) (want_yes rfl rfl rfl hc27) ?_
          refine do_call2 body20 (usage_Table_Live_s _ _ _ _ h) rfl ?_
          rintro _ H33 ⟨y34, rfl, h⟩
          refine ⟨_, (.inl ⟨⟨[12, 13, 14, 17], by decide +kernel, rfl⟩, .inl ⟨⟨[5, 6, 9, 14, 17], by decide +kernel, rfl⟩, rfl⟩⟩), ?_⟩
          refine plan_one (j := 20) (S2 := 2097151) (by decide +kernel) rfl (by decide) (want_yes rfl rfl rfl hc27) ?_
          refine do_call2 body51 (keelsonref11_Table_Lives_s _ _ _ _ h) rfl ?_
          rintro _ H35 ⟨y36, rfl, h⟩
          refine ⟨_, rfl, ?_⟩
          refine plan_pure (i := 21) (d := 40) (S2 := 4194303) (v := .bool (y34 != y36)) rfl (by decide +kernel) (want_yes rfl rfl rfl hc27) (q_neq rfl rfl) ?_
          refine plan_pure (i := 22) (d := 41) (S2 := 8388607) (v := .bool (y34 != y36)) rfl (by decide +kernel) rfl (q_pickF (btF rfl hc27) rfl) ?_
          refine plan_weaken (L2 := [11, 4]) (by decide) ?_
          exact hj29 _ _ _ h ⟨e26_0, e26_1, e26_5, rfl⟩
    · intro j24 hj24 h
      rcases bor (y20 != x17) with hc22 | hc22
      · have h := h.1 hc22
        refine plan_skip (i := 7) (d := 26) (S2 := 255) rfl (by decide +kernel) (want_no rfl rfl rfl hc22) ?_
        refine plan_skip (i := 8) (d := 27) (S2 := 511) rfl (by decide +kernel) (want_no rfl rfl rfl hc22) ?_
        refine plan_skip (i := 9) (d := 28) (S2 := 1023) rfl (by decide +kernel) (want_no rfl rfl rfl hc22) ?_
        refine plan_skip (i := 10) (d := 29) (S2 := 2047) rfl (by decide +kernel) (want_no rfl rfl rfl hc22) ?_
        refine plan_skip (i := 11) (d := 30) (S2 := 4095) rfl (by decide +kernel) (want_no rfl rfl rfl hc22) ?_
        refine plan_skip (i := 12) (d := 31) (S2 := 8191) rfl (by decide +kernel) (want_no rfl rfl rfl hc22) ?_
        refine plan_pure (i := 13) (d := 32) (S2 := 16383) (v := .bool true) rfl (by decide +kernel) rfl (q_pickT (btT rfl hc22) rfl) ?_
        refine plan_weaken (L2 := [11, 4]) (by decide) ?_
        exact hj24 _ _ _ h ⟨e3_0, e3_1, e3_5, rfl⟩
      · have h := h.2 hc22
        refine plan_pure (i := 7) (d := 26) (S2 := 255) (v := .pointer p0) rfl (by decide +kernel) (want_yes rfl rfl rfl hc22) (q_move e3_0) ?_
        refine plan_pure (i := 8) (d := 27) (S2 := 511) (v := .int .i64 s1) rfl (by decide +kernel) (want_yes rfl rfl rfl hc22) (q_move e3_5) ?_
        refine plan_pure (i := 10) (d := 29) (S2 := 1535) (v := .pointer (some (a12.add 1))) rfl (by decide +kernel) (want_yes rfl rfl rfl hc22) (q_fieldAddr foff52_1 rfl) ?_
        obtain ⟨x37, hx38, h⟩ := h
        refine plan_load (i := 11) (d := 30) (S2 := 3583) (v := .int .i64 x37) rfl (by decide +kernel) (want_yes rfl rfl rfl hc22) (q_load scalar3 rfl hx38) ?_
        refine plan_one (j := 9) (S2 := 4095) (by decide +kernel) rfl (by decide) (want_yes rfl rfl rfl hc22) ?_
        refine do_call2 body50 (usage_Table_Stamp_s _ _ _ _ h) rfl ?_
        rintro _ H39 ⟨y40, rfl, h⟩
        obtain ⟨hr41, h⟩ := h
        refine ⟨_, (.inr ⟨⟨_, _, rfl, rfl, q_load scalar3 rfl hr41⟩, _, rfl, .inl ⟨⟨[5, 6, 9], by decide +kernel, rfl⟩, rfl⟩⟩), ?_⟩
        refine plan_pure (i := 12) (d := 31) (S2 := 8191) (v := .bool (y40 != x37)) rfl (by decide +kernel) (want_yes rfl rfl rfl hc22) (q_neq rfl rfl) ?_
        refine plan_pure (i := 13) (d := 32) (S2 := 16383) (v := .bool (y40 != x37)) rfl (by decide +kernel) rfl (q_pickF (btF rfl hc22) rfl) ?_
        refine plan_weaken (L2 := [11, 4]) (by decide) ?_
        exact hj24 _ _ _ h ⟨e3_0, e3_1, e3_5, rfl⟩
  · have h := h.2 hc9
    refine Go.condF (btF rfl hc9) ?_
    refine Go.exit rfl ?_
    refine Go.seq ?_
    refine Go.region rfl ?_
    refine GoOps.q (v := .pointer p0) rfl rfl (by decide) (q_move e3_0) ?_
    refine call_dst rfl (by decide) body15 (usage_Table_Free_s _ _ _ h) rfl ?_
    rintro _ H42 ⟨y43, rfl, h⟩
    refine GoOps.q (v := .pointer p1) rfl rfl (by decide) (q_move e3_1) ?_
    refine call_dst rfl (by decide) body52 (keelsonref11_Table_Free_s _ _ _ h) rfl ?_
    rintro _ H44 ⟨y45, rfl, h⟩
    refine GoOps.q (v := .bool (y43 == y45)) rfl rfl (by decide) (q_eql rfl rfl) ?_
    refine GoOps.q (v := .bool (y43 == y45)) rfl rfl (by decide) (q_move rfl) ?_
    refine join_ops 6 (fun ρ (s47 : Bool) => ρ 0 = .pointer p0 ∧ ρ 1 = .pointer p1 ∧ ρ 53 = .bool s47) h ?_ ?_ <;> clear h
    · intro s47 H49 ρ h hE
      obtain ⟨e50_0, e50_1, e50_53⟩ := hE
      refine GoOps.q (v := .bool s47) rfl rfl (by decide) (q_move e50_53) ?_
      refine join_ops 6 (fun ρ (s52 : Bool) => ρ 0 = .pointer p0 ∧ ρ 1 = .pointer p1 ∧ ρ 60 = .bool s52) h ?_ ?_ <;> clear h
      · intro s52 H54 ρ h hE
        obtain ⟨e55_0, e55_1, e55_60⟩ := hE
        refine GoOps.q (v := .bool s52) rfl rfl (by decide) (q_move e55_60) ?_
        refine join_ops 6 (fun ρ (s57 : Bool) => ρ 67 = .bool s57) h ?_ ?_ <;> clear h
        · intro s57 H59 ρ h hE
          have e60_67 := hE
          refine GoOps.q (v := .bool s57) rfl rfl (by decide) (q_assign e60_67) ?_
          refine GoOps.nil ?_
          exact Go.ret ⟨.inl rfl, _, _, DOk.nil, (resOk1 Try.results28 rfl), ⟨_, rfl, h⟩⟩
        · intro j58 hj58 h
          rcases bor s52 with hc56 | hc56
          · have h := h.1 hc56
            refine GoOps.q (v := .pointer p0) (want_yes rfl rfl rfl hc56) rfl (by decide) (q_move e55_0) ?_
            refine call_dst (want_yes rfl rfl rfl hc56) (by decide) body25 (keelsonlaw12_sealed_s _ _ _ _ h) rfl ?_
            rintro _ H61 ⟨y62, rfl, h⟩
            refine GoOps.q (v := .pointer p1) (want_yes rfl rfl rfl hc56) rfl (by decide) (q_move e55_1) ?_
            refine call_dst (want_yes rfl rfl rfl hc56) (by decide) body54 (keelsonref11_Table_Sealed_s _ _ _ h) rfl ?_
            rintro _ H63 ⟨y64, rfl, h⟩
            refine call_dst (want_yes rfl rfl rfl hc56) (by decide) body22 (keelsonalike_Ints_s _ _ _ _ h) rfl ?_
            rintro _ H65 ⟨y66, rfl, h⟩
            refine GoOps.q (v := .bool y66) rfl rfl (by decide) (q_pickT (btT rfl hc56) rfl) ?_
            exact hj58 y66 _ _ h (by exact rfl)
          · have h := h.2 hc56
            refine no_dst (want_no rfl rfl rfl hc56) rfl (by decide) ?_
            refine no_dst (want_no rfl rfl rfl hc56) rfl (by decide) ?_
            refine no_dst (want_no rfl rfl rfl hc56) rfl (by decide) ?_
            refine no_dst (want_no rfl rfl rfl hc56) rfl (by decide) ?_
            refine no_dst (want_no rfl rfl rfl hc56) rfl (by decide) ?_
            refine GoOps.q (v := .bool false) rfl rfl (by decide) (q_pickF (btF rfl hc56) rfl) ?_
            exact hj58 false _ _ h (by exact rfl)
      · intro j53 hj53 h
        rcases bor s47 with hc51 | hc51
        · have h := h.1 hc51
          refine GoOps.q (v := .pointer p0) (want_yes rfl rfl rfl hc51) rfl (by decide) (q_move e50_0) ?_
          refine call_dst (want_yes rfl rfl rfl hc51) (by decide) body24 (usage_Table_Uses_s _ _ _ _ h) rfl ?_
          rintro _ H67 ⟨y68, rfl, h⟩
          refine GoOps.q (v := .pointer p1) (want_yes rfl rfl rfl hc51) rfl (by decide) (q_move e50_1) ?_
          refine call_dst (want_yes rfl rfl rfl hc51) (by decide) body53 (keelsonref11_Table_Told_s _ _ _ _ h) rfl ?_
          rintro _ H69 ⟨y70, rfl, h⟩
          refine call_dst (want_yes rfl rfl rfl hc51) (by decide) body26 (keelsonalike_Uses_s _ _ _ _ h) rfl ?_
          rintro _ H71 ⟨y72, rfl, h⟩
          refine GoOps.q (v := .bool y72) rfl rfl (by decide) (q_pickT (btT rfl hc51) rfl) ?_
          exact hj53 y72 _ _ h (by exact ⟨e50_0, e50_1, rfl⟩)
        · have h := h.2 hc51
          refine no_dst (want_no rfl rfl rfl hc51) rfl (by decide) ?_
          refine no_dst (want_no rfl rfl rfl hc51) rfl (by decide) ?_
          refine no_dst (want_no rfl rfl rfl hc51) rfl (by decide) ?_
          refine no_dst (want_no rfl rfl rfl hc51) rfl (by decide) ?_
          refine no_dst (want_no rfl rfl rfl hc51) rfl (by decide) ?_
          refine GoOps.q (v := .bool false) rfl rfl (by decide) (q_pickF (btF rfl hc51) rfl) ?_
          exact hj53 false _ _ h (by exact ⟨e50_0, e50_1, rfl⟩)
    · intro j48 hj48 h
      rcases bor (y43 == y45) with hc46 | hc46
      · have h := h.1 hc46
        refine GoOps.q (v := .pointer p0) (want_yes rfl rfl rfl hc46) rfl (by decide) (q_move e3_0) ?_
        refine call_dst (want_yes rfl rfl rfl hc46) (by decide) body24 (usage_Table_Uses_s _ _ _ _ h) rfl ?_
        rintro _ H73 ⟨y74, rfl, h⟩
        refine GoOps.q (v := .pointer p1) (want_yes rfl rfl rfl hc46) rfl (by decide) (q_move e3_1) ?_
        refine call_dst (want_yes rfl rfl rfl hc46) (by decide) body53 (keelsonref11_Table_Told_s _ _ _ _ h) rfl ?_
        rintro _ H75 ⟨y76, rfl, h⟩
        refine call_dst (want_yes rfl rfl rfl hc46) (by decide) body26 (keelsonalike_Uses_s _ _ _ _ h) rfl ?_
        rintro _ H77 ⟨y78, rfl, h⟩
        refine GoOps.q (v := .bool y78) rfl rfl (by decide) (q_pickT (btT rfl hc46) rfl) ?_
        exact hj48 y78 _ _ h (by exact ⟨e3_0, e3_1, rfl⟩)
      · have h := h.2 hc46
        refine no_dst (want_no rfl rfl rfl hc46) rfl (by decide) ?_
        refine no_dst (want_no rfl rfl rfl hc46) rfl (by decide) ?_
        refine no_dst (want_no rfl rfl rfl hc46) rfl (by decide) ?_
        refine no_dst (want_no rfl rfl rfl hc46) rfl (by decide) ?_
        refine no_dst (want_no rfl rfl rfl hc46) rfl (by decide) ?_
        refine GoOps.q (v := .bool false) rfl rfl (by decide) (q_pickF (btF rfl hc46) rfl) ?_
        exact hj48 false _ _ h (by exact ⟨e3_0, e3_1, rfl⟩)

/-- keelson.keelsonref1.Up -/
def keelsonref1_Up (p0 : Int) (p1 : Int) (H : PH) (Q : Int → PH → Prop) : Prop :=
  mNe p1 <|
  Q (IntKind.wrap .i64 (Int.tdiv (IntKind.wrap .i64 ((IntKind.wrap .i64 (p0 + p1)) - 1)) p1)) H

set_option maxRecDepth 20000 in
set_option maxHeartbeats 1000000 in
theorem keelsonref1_Up_s (p0 : Int) (p1 : Int) (H : PH) (Q : Int → PH → Prop) (h : keelsonref1_Up p0 p1 H Q) :
    CallsH Try.prog 64 #[.int .i64 p0, .int .i64 p1] H (fun v H' => ∃ (r0 : Int), v = .int .i64 r0 ∧ Q r0 H') := by
  unfold keelsonref1_Up at h
  refine callsH_of_go Try.func64 rfl Try.ntmps64 (Nat.le_of_ble_eq_true rfl) ?_
  refine Go.seq ?_
  refine Go.region rfl ?_
  refine GoOps.q (v := .int .i64 0) rfl rfl (by decide) (q_assign rfl) ?_
  refine GoOps.nil ?_
  refine Go.seq ?_
  refine Go.region rfl ?_
  refine GoOps.q (v := .int .i64 p0) rfl rfl (by decide) (q_move rfl) ?_
  refine GoOps.q (v := .int .i64 p1) rfl rfl (by decide) (q_move rfl) ?_
  refine GoOps.q (v := .int .i64 (IntKind.wrap .i64 (p0 + p1))) rfl rfl (by decide) (q_add rfl rfl) ?_
  refine GoOps.q (v := .int .i64 (IntKind.wrap .i64 ((IntKind.wrap .i64 (p0 + p1)) - 1))) rfl rfl (by decide) (q_sub rfl rfl) ?_
  refine GoOps.q (v := .int .i64 p1) rfl rfl (by decide) (q_move rfl) ?_
  obtain ⟨hn1, h⟩ := h
  refine GoOps.q (v := .int .i64 (IntKind.wrap .i64 (Int.tdiv (IntKind.wrap .i64 ((IntKind.wrap .i64 (p0 + p1)) - 1)) p1))) rfl rfl (by decide) (q_quo hn1 rfl rfl) ?_
  refine GoOps.q (v := .int .i64 (IntKind.wrap .i64 (Int.tdiv (IntKind.wrap .i64 ((IntKind.wrap .i64 (p0 + p1)) - 1)) p1))) rfl rfl (by decide) (q_assign rfl) ?_
  refine GoOps.nil ?_
  exact Go.ret ⟨.inl rfl, _, _, DOk.nil, (resOk1 Try.results64 rfl), ⟨_, rfl, h⟩⟩

/-- keelson.keelsonref1.RegionLen -/
def keelsonref1_RegionLen (p0 : (Int × Int × Int)) (H : PH) (Q : Int → PH → Prop) : Prop :=
  mNew H (row [.int .i64 p0.1, .int .i64 p0.2.1, .int .i64 p0.2.2] 26) fun a1 H2 =>
  mLd (.int .i64) H2 (a1.add 1) fun x4 =>
  keelsonref1_Up (IntKind.wrap .i64 (43 + (IntKind.wrap .i64 (5 * x4)))) 64 H2 fun y7 H6 =>
  Q y7 H6

set_option maxRecDepth 20000 in
set_option maxHeartbeats 1000000 in
theorem keelsonref1_RegionLen_s (p0 : (Int × Int × Int)) (H : PH) (Q : Int → PH → Prop) (h : keelsonref1_RegionLen p0 H Q) :
    CallsH Try.prog 62 #[.agg ([.int .i64 p0.1, .int .i64 p0.2.1, .int .i64 p0.2.2] : List Value).toArray] H (fun v H' => ∃ (r0 : Int), v = .int .i64 r0 ∧ Q r0 H') := by
  unfold keelsonref1_RegionLen at h
  refine callsH_of_go Try.func62 rfl Try.ntmps62 (Nat.le_of_ble_eq_true rfl) ?_
  refine Go.seq ?_
  refine Go.region rfl ?_
  refine op_dst rfl rfl (by decide) (do_newBox (cs := [.int .i64 p0.1, .int .i64 p0.2.1, .int .i64 p0.2.2]) rfl rfl fun a1 H2 hb3 => ?_) 
  have h := h a1 H2 hb3
  refine GoOps.q (v := .int .i64 0) rfl rfl (by decide) (q_assign rfl) ?_
  refine GoOps.nil ?_
  refine Go.seq ?_
  refine Go.region rfl ?_
  refine GoOps.q (v := .pointer (some (a1.add 1))) rfl rfl (by decide) (q_fieldAddr foff26_1 rfl) ?_
  obtain ⟨x4, hx5, h⟩ := h
  refine GoOps.q (v := .int .i64 x4) rfl rfl (by decide) (q_load scalar3 rfl hx5) ?_
  refine GoOps.q (v := .int .i64 (IntKind.wrap .i64 (5 * x4))) rfl rfl (by decide) (q_mul rfl rfl) ?_
  refine GoOps.q (v := .int .i64 (IntKind.wrap .i64 (43 + (IntKind.wrap .i64 (5 * x4))))) rfl rfl (by decide) (q_add rfl rfl) ?_
  refine call_dst rfl (by decide) body64 (keelsonref1_Up_s _ _ _ _ h) rfl ?_
  rintro _ H6 ⟨y7, rfl, h⟩
  refine GoOps.q (v := .int .i64 y7) rfl rfl (by decide) (q_assign rfl) ?_
  refine GoOps.nil ?_
  exact Go.ret ⟨.inl rfl, _, _, DOk.nil, (resOk1 Try.results62 rfl), ⟨_, rfl, h⟩⟩

/-- keelson.keelsonref1.Pages -/
def keelsonref1_Pages (p0 : (Int × Int × Int)) (H : PH) (Q : Int → PH → Prop) : Prop :=
  mNew H (row [.int .i64 p0.1, .int .i64 p0.2.1, .int .i64 p0.2.2] 26) fun a1 H2 =>
  mLd (.int .i64) H2 (a1.add 0) fun x4 =>
  keelsonref1_Up x4 15 H2 fun y7 H6 =>
  Q y7 H6

set_option maxRecDepth 20000 in
set_option maxHeartbeats 1000000 in
theorem keelsonref1_Pages_s (p0 : (Int × Int × Int)) (H : PH) (Q : Int → PH → Prop) (h : keelsonref1_Pages p0 H Q) :
    CallsH Try.prog 63 #[.agg ([.int .i64 p0.1, .int .i64 p0.2.1, .int .i64 p0.2.2] : List Value).toArray] H (fun v H' => ∃ (r0 : Int), v = .int .i64 r0 ∧ Q r0 H') := by
  unfold keelsonref1_Pages at h
  refine callsH_of_go Try.func63 rfl Try.ntmps63 (Nat.le_of_ble_eq_true rfl) ?_
  refine Go.seq ?_
  refine Go.region rfl ?_
  refine op_dst rfl rfl (by decide) (do_newBox (cs := [.int .i64 p0.1, .int .i64 p0.2.1, .int .i64 p0.2.2]) rfl rfl fun a1 H2 hb3 => ?_) 
  have h := h a1 H2 hb3
  refine GoOps.q (v := .int .i64 0) rfl rfl (by decide) (q_assign rfl) ?_
  refine GoOps.nil ?_
  refine Go.seq ?_
  refine Go.region rfl ?_
  refine GoOps.q (v := .pointer (some (a1.add 0))) rfl rfl (by decide) (q_fieldAddr foff26_0 rfl) ?_
  obtain ⟨x4, hx5, h⟩ := h
  refine GoOps.q (v := .int .i64 x4) rfl rfl (by decide) (q_load scalar3 rfl hx5) ?_
  refine call_dst rfl (by decide) body64 (keelsonref1_Up_s _ _ _ _ h) rfl ?_
  rintro _ H6 ⟨y7, rfl, h⟩
  refine GoOps.q (v := .int .i64 y7) rfl rfl (by decide) (q_assign rfl) ?_
  refine GoOps.nil ?_
  exact Go.ret ⟨.inl rfl, _, _, DOk.nil, (resOk1 Try.results63 rfl), ⟨_, rfl, h⟩⟩

/-- keelson.keelsonref1.SegAt -/
def keelsonref1_SegAt (p0 : (Int × Int × Int)) (p1 : Int) (H : PH) (Q : Int → PH → Prop) : Prop :=
  mNew H (row [.int .i64 p0.1, .int .i64 p0.2.1, .int .i64 p0.2.2] 26) fun a1 H2 =>
  mLd (.int .i64) H2 (a1.add 1) fun x4 =>
  keelsonref1_Within p1 0 (IntKind.wrap .i64 (x4 - 1)) H2 fun y7 H6 =>
  mIf (!y7)
  (Q (-1) H6)
  (mLdR (fun (x : (Int × Int × Int)) => [.int .i64 x.1, .int .i64 x.2.1, .int .i64 x.2.2]) H6 a1 3 fun x9 =>
  mLdR (fun (x : (Int × Int × Int)) => [.int .i64 x.1, .int .i64 x.2.1, .int .i64 x.2.2]) H6 a1 3 fun x11 =>
  mLd (.int .i64) H6 (a1.add 2) fun x13 =>
  keelsonref1_RegionLen (x9.1, x9.2.1, x9.2.2) H6 fun y16 H15 =>
  mSame H15 (a1.add 2) (.int .i64 x13) <|
  mSameA H15 a1 3 ([.int .i64 x11.1, .int .i64 x11.2.1, .int .i64 x11.2.2]) <|
  keelsonref1_Pages (x11.1, x11.2.1, x11.2.2) H15 fun y20 H19 =>
  mSame H19 (a1.add 2) (.int .i64 x13) <|
  Q (IntKind.wrap .i64 ((IntKind.wrap .i64 ((IntKind.wrap .i64 (2 + (IntKind.wrap .i64 (2 * y16)))) + (IntKind.wrap .i64 (4 * y20)))) + (IntKind.wrap .i64 (p1 * x13)))) H19)

set_option maxRecDepth 20000 in
set_option maxHeartbeats 1000000 in
theorem keelsonref1_SegAt_s (p0 : (Int × Int × Int)) (p1 : Int) (H : PH) (Q : Int → PH → Prop) (h : keelsonref1_SegAt p0 p1 H Q) :
    CallsH Try.prog 60 #[.agg ([.int .i64 p0.1, .int .i64 p0.2.1, .int .i64 p0.2.2] : List Value).toArray, .int .i64 p1] H (fun v H' => ∃ (r0 : Int), v = .int .i64 r0 ∧ Q r0 H') := by
  unfold keelsonref1_SegAt at h
  refine callsH_of_go Try.func60 rfl Try.ntmps60 (Nat.le_of_ble_eq_true rfl) ?_
  refine Go.seq ?_
  refine Go.region rfl ?_
  refine op_dst rfl rfl (by decide) (do_newBox (cs := [.int .i64 p0.1, .int .i64 p0.2.1, .int .i64 p0.2.2]) rfl rfl fun a1 H2 hb3 => ?_) 
  have h := h a1 H2 hb3
  refine GoOps.q (v := .int .i64 0) rfl rfl (by decide) (q_assign rfl) ?_
  refine GoOps.nil ?_
  refine Go.seq ?_
  refine Go.seq ?_
  refine Go.region rfl ?_
  refine GoOps.q (v := .int .i64 p1) rfl rfl (by decide) (q_move rfl) ?_
  refine GoOps.q (v := .pointer (some (a1.add 1))) rfl rfl (by decide) (q_fieldAddr foff26_1 rfl) ?_
  obtain ⟨x4, hx5, h⟩ := h
  refine GoOps.q (v := .int .i64 x4) rfl rfl (by decide) (q_load scalar3 rfl hx5) ?_
  refine GoOps.q (v := .int .i64 (IntKind.wrap .i64 (x4 - 1))) rfl rfl (by decide) (q_sub rfl rfl) ?_
  refine call_dst rfl (by decide) body48 (keelsonref1_Within_s _ _ _ _ _ h) rfl ?_
  rintro _ H6 ⟨y7, rfl, h⟩
  refine GoOps.q (v := .bool (!y7)) rfl rfl (by decide) (q_not rfl) ?_
  refine GoOps.nil ?_
  rcases bor (!y7) with hc8 | hc8
  · have h := h.1 hc8
    refine Go.condT (btT rfl hc8) ?_
    refine Go.seq ?_
    refine Go.region rfl ?_
    refine GoOps.q (v := .int .i64 (-1)) rfl rfl (by decide) (q_assign rfl) ?_
    refine GoOps.nil ?_
    exact Go.ret ⟨.inl rfl, _, _, DOk.nil, (resOk1 Try.results60 rfl), ⟨_, rfl, h⟩⟩
  · have h := h.2 hc8
    refine Go.condF (btF rfl hc8) ?_
    refine Go.skip ?_
    refine Go.seq ?_
    refine Go.draw mixed ?_
    obtain ⟨x9, hx10, h⟩ := h
    refine plan_load (i := 0) (d := 11) (S2 := 1) (v := .agg ([.int .i64 x9.1, .int .i64 x9.2.1, .int .i64 x9.2.2] : List Value).toArray) rfl (by decide +kernel) rfl (q_loadA aggr26 rfl hx10) ?_
    obtain ⟨x11, hx12, h⟩ := h
    refine plan_load (i := 4) (d := 15) (S2 := 17) (v := .agg ([.int .i64 x11.1, .int .i64 x11.2.1, .int .i64 x11.2.2] : List Value).toArray) rfl (by decide +kernel) rfl (q_loadA aggr26 rfl hx12) ?_
    refine plan_pure (i := 8) (d := 19) (S2 := 273) (v := .int .i64 p1) rfl (by decide +kernel) rfl (q_move rfl) ?_
    refine plan_pure (i := 9) (d := 20) (S2 := 785) (v := .pointer (some (a1.add 2))) rfl (by decide +kernel) rfl (q_fieldAddr foff26_2 rfl) ?_
    obtain ⟨x13, hx14, h⟩ := h
    refine plan_load (i := 10) (d := 21) (S2 := 1809) (v := .int .i64 x13) rfl (by decide +kernel) rfl (q_load scalar3 rfl hx14) ?_
    refine plan_pure (i := 11) (d := 22) (S2 := 3857) (v := .int .i64 (IntKind.wrap .i64 (p1 * x13))) rfl (by decide +kernel) rfl (q_mul rfl rfl) ?_
    refine plan_one (j := 1) (S2 := 3859) (by decide +kernel) rfl (by decide) rfl ?_
    refine do_call2 body62 (keelsonref1_RegionLen_s _ _ _ h) rfl ?_
    rintro _ H15 ⟨y16, rfl, h⟩
    obtain ⟨hr17, h⟩ := h
    obtain ⟨hr18, h⟩ := h
    refine ⟨_, (.inr ⟨⟨_, _, rfl, rfl, q_load scalar3 rfl hr17⟩, _, rfl, .inr ⟨⟨_, _, rfl, rfl, q_loadA aggr26 rfl hr18⟩, _, rfl, .inl ⟨⟨[1], by decide +kernel, rfl⟩, rfl⟩⟩⟩), ?_⟩
    refine plan_pure (i := 2) (d := 13) (S2 := 3863) (v := .int .i64 (IntKind.wrap .i64 (2 * y16))) rfl (by decide +kernel) rfl (q_mul rfl rfl) ?_
    refine plan_pure (i := 3) (d := 14) (S2 := 3871) (v := .int .i64 (IntKind.wrap .i64 (2 + (IntKind.wrap .i64 (2 * y16))))) rfl (by decide +kernel) rfl (q_add rfl rfl) ?_
    refine plan_one (j := 5) (S2 := 3903) (by decide +kernel) rfl (by decide) rfl ?_
    refine do_call2 body63 (keelsonref1_Pages_s _ _ _ h) rfl ?_
    rintro _ H19 ⟨y20, rfl, h⟩
    obtain ⟨hr21, h⟩ := h
    refine ⟨_, (.inr ⟨⟨_, _, rfl, rfl, q_load scalar3 rfl hr21⟩, _, rfl, .inl ⟨⟨[5], by decide +kernel, rfl⟩, rfl⟩⟩), ?_⟩
    refine plan_pure (i := 6) (d := 17) (S2 := 3967) (v := .int .i64 (IntKind.wrap .i64 (4 * y20))) rfl (by decide +kernel) rfl (q_mul rfl rfl) ?_
    refine plan_pure (i := 7) (d := 18) (S2 := 4095) (v := .int .i64 (IntKind.wrap .i64 ((IntKind.wrap .i64 (2 + (IntKind.wrap .i64 (2 * y16)))) + (IntKind.wrap .i64 (4 * y20))))) rfl (by decide +kernel) rfl (q_add rfl rfl) ?_
    refine plan_pure (i := 12) (d := 23) (S2 := 8191) (v := .int .i64 (IntKind.wrap .i64 ((IntKind.wrap .i64 ((IntKind.wrap .i64 (2 + (IntKind.wrap .i64 (2 * y16)))) + (IntKind.wrap .i64 (4 * y20)))) + (IntKind.wrap .i64 (p1 * x13))))) rfl (by decide +kernel) rfl (q_add rfl rfl) ?_
    refine plan_pure (i := 13) (d := 4) (S2 := 16383) (v := .int .i64 (IntKind.wrap .i64 ((IntKind.wrap .i64 ((IntKind.wrap .i64 (2 + (IntKind.wrap .i64 (2 * y16)))) + (IntKind.wrap .i64 (4 * y20)))) + (IntKind.wrap .i64 (p1 * x13))))) rfl (by decide +kernel) rfl (q_assign rfl) ?_
    refine plan_done (by decide +kernel) ?_
    exact Go.ret ⟨.inl rfl, _, _, DOk.nil, (resOk1 Try.results60 rfl), ⟨_, rfl, h⟩⟩

/-- keelson.keelsonref1.Where -/
def keelsonref1_Where (p0 : (Int × Int × Int)) (p1 : Int) (H : PH) (Q : Int → Int → Bool → PH → Prop) : Prop :=
  mNew H (row [.int .i64 p0.1, .int .i64 p0.2.1, .int .i64 p0.2.2] 26) fun a1 H2 =>
  mLdR (fun (x : (Int × Int × Int)) => [.int .i64 x.1, .int .i64 x.2.1, .int .i64 x.2.2]) H2 a1 3 fun x4 =>
  keelsonref1_SegAt (x4.1, x4.2.1, x4.2.2) 0 H2 fun y7 H6 =>
  mLdR (fun (x : (Int × Int × Int)) => [.int .i64 x.1, .int .i64 x.2.1, .int .i64 x.2.2]) H6 a1 3 fun x8 =>
  keelsonref1_SegAt (x8.1, x8.2.1, x8.2.2) 0 H6 fun y11 H10 =>
  mJoin (fun (s13 : Bool) (H15 : PH) =>
  mIf s13
  (Q 0 0 false H15)
  (mLd (.int .i64) H15 (a1.add 2) fun x18 =>
  mNe x18 <|
  mLd (.int .i64) H15 (a1.add 2) fun x21 =>
  mNe x21 <|
  Q (IntKind.wrap .i64 (Int.tdiv (IntKind.wrap .i64 (p1 - y7)) x18)) (Int.tmod (IntKind.wrap .i64 (p1 - y7)) x21) true H15))
  fun j14 =>
  mIf (decide (p1 < y11))
  (j14 true H10)
  (mLd (.int .i64) H10 (a1.add 1) fun x24 =>
  mLd (.int .i64) H10 (a1.add 2) fun x26 =>
  j14 (decide ((IntKind.wrap .i64 (x24 * x26)) ≤ (IntKind.wrap .i64 (p1 - y7)))) H10)

set_option maxRecDepth 20000 in
set_option maxHeartbeats 1000000 in
theorem keelsonref1_Where_s (p0 : (Int × Int × Int)) (p1 : Int) (H : PH) (Q : Int → Int → Bool → PH → Prop) (h : keelsonref1_Where p0 p1 H Q) :
    CallsH Try.prog 55 #[.agg ([.int .i64 p0.1, .int .i64 p0.2.1, .int .i64 p0.2.2] : List Value).toArray, .int .i64 p1] H (fun v H' => ∃ (r0 : Int) (r1 : Int) (r2 : Bool), v = .tuple #[.int .i64 r0, .int .i64 r1, .bool r2] ∧ Q r0 r1 r2 H') := by
  unfold keelsonref1_Where at h
  refine callsH_of_go Try.func55 rfl Try.ntmps55 (Nat.le_of_ble_eq_true rfl) ?_
  refine Go.seq ?_
  refine Go.region rfl ?_
  refine op_dst rfl rfl (by decide) (do_newBox (cs := [.int .i64 p0.1, .int .i64 p0.2.1, .int .i64 p0.2.2]) rfl rfl fun a1 H2 hb3 => ?_) 
  have h := h a1 H2 hb3
  refine GoOps.q (v := .int .i64 0) rfl rfl (by decide) (q_assign rfl) ?_
  refine GoOps.q (v := .int .i64 0) rfl rfl (by decide) (q_assign rfl) ?_
  refine GoOps.q (v := .bool false) rfl rfl (by decide) (q_assign rfl) ?_
  refine GoOps.nil ?_
  refine Go.seq ?_
  refine Go.region rfl ?_
  refine GoOps.q (v := .int .i64 p1) rfl rfl (by decide) (q_move rfl) ?_
  obtain ⟨x4, hx5, h⟩ := h
  refine GoOps.q (v := .agg ([.int .i64 x4.1, .int .i64 x4.2.1, .int .i64 x4.2.2] : List Value).toArray) rfl rfl (by decide) (q_loadA aggr26 rfl hx5) ?_
  refine call_dst rfl (by decide) body60 (keelsonref1_SegAt_s _ _ _ _ h) rfl ?_
  rintro _ H6 ⟨y7, rfl, h⟩
  refine GoOps.q (v := .int .i64 (IntKind.wrap .i64 (p1 - y7))) rfl rfl (by decide) (q_sub rfl rfl) ?_
  refine GoOps.q (v := .int .i64 (IntKind.wrap .i64 (p1 - y7))) rfl rfl (by decide) (q_assign rfl) ?_
  refine GoOps.nil ?_
  refine Go.seq ?_
  refine Go.seq ?_
  refine Go.region rfl ?_
  refine GoOps.q (v := .int .i64 p1) rfl rfl (by decide) (q_move rfl) ?_
  obtain ⟨x8, hx9, h⟩ := h
  refine GoOps.q (v := .agg ([.int .i64 x8.1, .int .i64 x8.2.1, .int .i64 x8.2.2] : List Value).toArray) rfl rfl (by decide) (q_loadA aggr26 rfl hx9) ?_
  refine call_dst rfl (by decide) body60 (keelsonref1_SegAt_s _ _ _ _ h) rfl ?_
  rintro _ H10 ⟨y11, rfl, h⟩
  refine GoOps.q (v := .bool (decide (p1 < y11))) rfl rfl (by decide) (q_lss rfl rfl) ?_
  refine GoOps.q (v := .bool (decide (p1 < y11))) rfl rfl (by decide) (q_move rfl) ?_
  refine join_ops 8 (fun ρ (s13 : Bool) => ρ 2 = .pointer (some a1) ∧ ρ 7 = .int .i64 (IntKind.wrap .i64 (p1 - y7)) ∧ ρ 24 = .bool s13) h ?_ ?_ <;> clear h
  · intro s13 H15 ρ h hE
    obtain ⟨e16_2, e16_7, e16_24⟩ := hE
    refine GoOps.nil ?_
    rcases bor s13 with hc17 | hc17
    · have h := h.1 hc17
      refine Go.condT (btT e16_24 hc17) ?_
      refine Go.seq ?_
      refine Go.region rfl ?_
      refine GoOps.q (v := .int .i64 0) rfl rfl (by decide) (q_assign rfl) ?_
      refine GoOps.q (v := .int .i64 0) rfl rfl (by decide) (q_assign rfl) ?_
      refine GoOps.q (v := .bool false) rfl rfl (by decide) (q_assign rfl) ?_
      refine GoOps.nil ?_
      exact Go.ret ⟨.inl rfl, _, _, DOk.nil, (resOk3 Try.results55 rfl rfl rfl), ⟨_, _, _, rfl, h⟩⟩
    · have h := h.2 hc17
      refine Go.condF (btF e16_24 hc17) ?_
      refine Go.skip ?_
      refine Go.seq ?_
      refine Go.draw mixed ?_
      refine plan_pure (i := 0) (d := 25) (S2 := 1) (v := .int .i64 (IntKind.wrap .i64 (p1 - y7))) rfl (by decide +kernel) rfl (q_move e16_7) ?_
      refine plan_pure (i := 1) (d := 26) (S2 := 3) (v := .pointer (some (a1.add 2))) rfl (by decide +kernel) rfl (q_fieldAddr foff26_2 e16_2) ?_
      obtain ⟨x18, hx19, h⟩ := h
      refine plan_load (i := 2) (d := 27) (S2 := 7) (v := .int .i64 x18) rfl (by decide +kernel) rfl (q_load scalar3 rfl hx19) ?_
      obtain ⟨hn20, h⟩ := h
      refine plan_pure (i := 3) (d := 28) (S2 := 15) (v := .int .i64 (IntKind.wrap .i64 (Int.tdiv (IntKind.wrap .i64 (p1 - y7)) x18))) rfl (by decide +kernel) rfl (q_quo hn20 rfl rfl) ?_
      refine plan_pure (i := 4) (d := 29) (S2 := 31) (v := .int .i64 (IntKind.wrap .i64 (p1 - y7))) rfl (by decide +kernel) rfl (q_move e16_7) ?_
      refine plan_pure (i := 5) (d := 30) (S2 := 63) (v := .pointer (some (a1.add 2))) rfl (by decide +kernel) rfl (q_fieldAddr foff26_2 e16_2) ?_
      obtain ⟨x21, hx22, h⟩ := h
      refine plan_load (i := 6) (d := 31) (S2 := 127) (v := .int .i64 x21) rfl (by decide +kernel) rfl (q_load scalar3 rfl hx22) ?_
      obtain ⟨hn23, h⟩ := h
      refine plan_pure (i := 7) (d := 32) (S2 := 255) (v := .int .i64 (Int.tmod (IntKind.wrap .i64 (p1 - y7)) x21)) rfl (by decide +kernel) rfl (q_rem hn23 rfl rfl) ?_
      refine plan_pure (i := 8) (d := 4) (S2 := 511) (v := .int .i64 (IntKind.wrap .i64 (Int.tdiv (IntKind.wrap .i64 (p1 - y7)) x18))) rfl (by decide +kernel) rfl (q_assign rfl) ?_
      refine plan_pure (i := 9) (d := 5) (S2 := 1023) (v := .int .i64 (Int.tmod (IntKind.wrap .i64 (p1 - y7)) x21)) rfl (by decide +kernel) rfl (q_assign rfl) ?_
      refine plan_pure (i := 10) (d := 6) (S2 := 2047) (v := .bool true) rfl (by decide +kernel) rfl (q_assign rfl) ?_
      refine plan_done (by decide +kernel) ?_
      exact Go.ret ⟨.inl rfl, _, _, DOk.nil, (resOk3 Try.results55 rfl rfl rfl), ⟨_, _, _, rfl, h⟩⟩
  · intro j14 hj14 h
    rcases bor (decide (p1 < y11)) with hc12 | hc12
    · have h := h.1 hc12
      refine no_dst (want_no rfl rfl rfl hc12) rfl (by decide) ?_
      refine no_dst (want_no rfl rfl rfl hc12) rfl (by decide) ?_
      refine no_dst (want_no rfl rfl rfl hc12) rfl (by decide) ?_
      refine no_dst (want_no rfl rfl rfl hc12) rfl (by decide) ?_
      refine no_dst (want_no rfl rfl rfl hc12) rfl (by decide) ?_
      refine no_dst (want_no rfl rfl rfl hc12) rfl (by decide) ?_
      refine no_dst (want_no rfl rfl rfl hc12) rfl (by decide) ?_
      refine GoOps.q (v := .bool true) rfl rfl (by decide) (q_pickT (btT rfl hc12) rfl) ?_
      exact hj14 true _ _ h (by exact ⟨rfl, rfl, rfl⟩)
    · have h := h.2 hc12
      refine GoOps.q (v := .int .i64 (IntKind.wrap .i64 (p1 - y7))) (want_yes rfl rfl rfl hc12) rfl (by decide) (q_move rfl) ?_
      refine GoOps.q (v := .pointer (some (a1.add 1))) (want_yes rfl rfl rfl hc12) rfl (by decide) (q_fieldAddr foff26_1 rfl) ?_
      obtain ⟨x24, hx25, h⟩ := h
      refine GoOps.q (v := .int .i64 x24) (want_yes rfl rfl rfl hc12) rfl (by decide) (q_load scalar3 rfl hx25) ?_
      refine GoOps.q (v := .pointer (some (a1.add 2))) (want_yes rfl rfl rfl hc12) rfl (by decide) (q_fieldAddr foff26_2 rfl) ?_
      obtain ⟨x26, hx27, h⟩ := h
      refine GoOps.q (v := .int .i64 x26) (want_yes rfl rfl rfl hc12) rfl (by decide) (q_load scalar3 rfl hx27) ?_
      refine GoOps.q (v := .int .i64 (IntKind.wrap .i64 (x24 * x26))) (want_yes rfl rfl rfl hc12) rfl (by decide) (q_mul rfl rfl) ?_
      refine GoOps.q (v := .bool (decide ((IntKind.wrap .i64 (x24 * x26)) ≤ (IntKind.wrap .i64 (p1 - y7))))) (want_yes rfl rfl rfl hc12) rfl (by decide) (q_geq rfl rfl) ?_
      refine GoOps.q (v := .bool (decide ((IntKind.wrap .i64 (x24 * x26)) ≤ (IntKind.wrap .i64 (p1 - y7))))) rfl rfl (by decide) (q_pickF (btF rfl hc12) rfl) ?_
      exact hj14 (decide ((IntKind.wrap .i64 (x24 * x26)) ≤ (IntKind.wrap .i64 (p1 - y7)))) _ _ h (by exact ⟨rfl, rfl, rfl⟩)

/-- (*keelson.keelsonref11.Table).Add -/
def keelsonref11_Table_Add (p0 : Option Addr) (p1 : Int) (p2 : Int) (H : PH) (Q : Bool → PH → Prop) : Prop :=
  mNil p0 fun a1 =>
  mLdR (fun (x : (Int × Int × Int)) => [.int .i64 x.1, .int .i64 x.2.1, .int .i64 x.2.2]) H (a1.add 0) 3 fun x3 =>
  keelsonref1_Where (x3.1, x3.2.1, x3.2.2) p1 H fun y6 y7 y8 H5 =>
  mIf (!y8)
  (Q false H5)
  (mNil p0 fun a10 =>
  mLd Sl.v H5 (a10.add 4) fun x12 =>
  mIdx x12 1 y6 fun a14 =>
  mLd (.int .i64) H5 a14 fun x16 =>
  mJoin (fun (s18 : Int) (H20 : PH) =>
  mNil p0 fun a22 =>
  mLd Sl.v H20 (a22.add 4) fun x24 =>
  mIdx x24 1 y6 fun a26 =>
  mLd (.int .i64) H20 a26 fun x28 =>
  mJoin (fun (s30 : Int) (H32 : PH) =>
  mNil p0 fun a34 =>
  mLd Sl.v H32 (a34.add 4) fun x36 =>
  mNil p0 fun a38 =>
  mLd Sl.v H32 (a38.add 4) fun x40 =>
  mIdx x40 1 y6 fun a42 =>
  mLd (.int .i64) H32 a42 fun x44 =>
  mIdx x36 1 y6 fun a46 =>
  mSt H32 a46 ([.int .i64 (IntKind.wrap .i64 (x44 + s30))]) fun H48 =>
  Q true H48)
  fun j31 =>
  mIf (decide ((IntKind.wrap .i64 (2147483647 - x28)) < s18))
  (mNil p0 fun a51 =>
  mLd Sl.v H20 (a51.add 4) fun x53 =>
  mIdx x53 1 y6 fun a55 =>
  mLd (.int .i64) H20 a55 fun x57 =>
  j31 (IntKind.wrap .i64 (2147483647 - x57)) H20)
  (j31 s18 H20))
  fun j19 =>
  mIf (decide (p2 < (IntKind.wrap .i64 (0 - x16))))
  (mNil p0 fun a60 =>
  mLd Sl.v H5 (a60.add 4) fun x62 =>
  mIdx x62 1 y6 fun a64 =>
  mLd (.int .i64) H5 a64 fun x66 =>
  j19 (IntKind.wrap .i64 (0 - x66)) H5)
  (j19 p2 H5))

set_option maxRecDepth 20000 in
set_option maxHeartbeats 1000000 in
theorem keelsonref11_Table_Add_s (p0 : Option Addr) (p1 : Int) (p2 : Int) (H : PH) (Q : Bool → PH → Prop) (h : keelsonref11_Table_Add p0 p1 p2 H Q) :
    CallsH Try.prog 29 #[.pointer p0, .int .i64 p1, .int .i64 p2] H (fun v H' => ∃ (r0 : Bool), v = .bool r0 ∧ Q r0 H') := by
  unfold keelsonref11_Table_Add at h
  refine callsH_of_go Try.func29 rfl Try.ntmps29 (Nat.le_of_ble_eq_true rfl) ?_
  refine Go.seq ?_
  refine Go.region rfl ?_
  refine GoOps.q (v := .bool false) rfl rfl (by decide) (q_assign rfl) ?_
  refine GoOps.nil ?_
  refine Go.seq ?_
  refine Go.region rfl ?_
  refine GoOps.q (v := .pointer p0) rfl rfl (by decide) (q_move rfl) ?_
  obtain ⟨a1, ha2, h⟩ := h
  refine GoOps.q (v := .pointer (some a1)) rfl rfl (by decide) (q_nilCheck (ptn rfl ha2)) ?_
  refine GoOps.q (v := .pointer (some (a1.add 0))) rfl rfl (by decide) (q_fieldAddr foff81_0 rfl) ?_
  obtain ⟨x3, hx4, h⟩ := h
  refine GoOps.q (v := .agg ([.int .i64 x3.1, .int .i64 x3.2.1, .int .i64 x3.2.2] : List Value).toArray) rfl rfl (by decide) (q_loadA aggr26 rfl hx4) ?_
  refine GoOps.q (v := .int .i64 p1) rfl rfl (by decide) (q_move rfl) ?_
  refine call_dst rfl (by decide) body55 (keelsonref1_Where_s _ _ _ _ h) rfl ?_
  rintro _ H5 ⟨y6, y7, y8, rfl, h⟩
  refine GoOps.q (v := .tuple #[.int .i64 y6, .int .i64 y7, .bool y8]) rfl rfl (by decide) (q_move rfl) ?_
  refine GoOps.q (v := .int .i64 y6) rfl rfl (by decide) (q_extract rfl rfl) ?_
  refine GoOps.q (v := .int .i64 y7) rfl rfl (by decide) (q_extract rfl rfl) ?_
  refine GoOps.q (v := .bool y8) rfl rfl (by decide) (q_extract rfl rfl) ?_
  refine GoOps.q (v := .int .i64 y6) rfl rfl (by decide) (q_assign rfl) ?_
  refine GoOps.q (v := .int .i64 y7) rfl rfl (by decide) (q_assign rfl) ?_
  refine GoOps.q (v := .bool y8) rfl rfl (by decide) (q_assign rfl) ?_
  refine GoOps.nil ?_
  refine Go.seq ?_
  refine Go.seq ?_
  refine Go.region rfl ?_
  refine GoOps.q (v := .bool y8) rfl rfl (by decide) (q_move rfl) ?_
  refine GoOps.q (v := .bool (!y8)) rfl rfl (by decide) (q_not rfl) ?_
  refine GoOps.nil ?_
  rcases bor (!y8) with hc9 | hc9
  · have h := h.1 hc9
    refine Go.condT (btT rfl hc9) ?_
    refine Go.seq ?_
    refine Go.region rfl ?_
    refine GoOps.q (v := .bool false) rfl rfl (by decide) (q_assign rfl) ?_
    refine GoOps.nil ?_
    exact Go.ret ⟨.inl rfl, _, _, DOk.nil, (resOk1 Try.results29 rfl), ⟨_, rfl, h⟩⟩
  · have h := h.2 hc9
    refine Go.condF (btF rfl hc9) ?_
    refine Go.skip ?_
    refine Go.seq ?_
    refine Go.seq ?_
    refine Go.region rfl ?_
    refine GoOps.q (v := .int .i64 p2) rfl rfl (by decide) (q_move rfl) ?_
    refine GoOps.q (v := .pointer p0) rfl rfl (by decide) (q_move rfl) ?_
    obtain ⟨a10, ha11, h⟩ := h
    refine GoOps.q (v := .pointer (some a10)) rfl rfl (by decide) (q_nilCheck (ptn rfl ha11)) ?_
    refine GoOps.q (v := .pointer (some (a10.add 4))) rfl rfl (by decide) (q_fieldAddr foff81_2 rfl) ?_
    obtain ⟨x12, hx13, h⟩ := h
    refine GoOps.q (v := Sl.v x12) rfl rfl (by decide) (q_load scalar23 rfl hx13) ?_
    refine GoOps.q (v := .int .i64 y6) rfl rfl (by decide) (q_move rfl) ?_
    obtain ⟨a14, ha15, h⟩ := h
    refine GoOps.q (v := .pointer (some a14)) rfl rfl (by decide) (q_idx slice23 ha15 rfl rfl) ?_
    obtain ⟨x16, hx17, h⟩ := h
    refine GoOps.q (v := .int .i64 x16) rfl rfl (by decide) (q_load scalar3 rfl hx17) ?_
    refine GoOps.q (v := .int .i64 (IntKind.wrap .i64 (0 - x16))) rfl rfl (by decide) (q_neg rfl) ?_
    refine GoOps.q (v := .bool (decide (p2 < (IntKind.wrap .i64 (0 - x16))))) rfl rfl (by decide) (q_lss rfl rfl) ?_
    refine GoOps.nil ?_
    refine join_go 1 (fun ρ (s18 : Int) => ρ 0 = .pointer p0 ∧ ρ 2 = .int .i64 s18 ∧ ρ 7 = .int .i64 y6) h ?_ ?_ <;> clear h
    · intro s18 H20 ρ h hE
      obtain ⟨e21_0, e21_2, e21_7⟩ := hE
      refine Go.seq ?_
      refine Go.seq ?_
      refine Go.region rfl ?_
      refine GoOps.q (v := .int .i64 s18) rfl rfl (by decide) (q_move e21_2) ?_
      refine GoOps.q (v := .pointer p0) rfl rfl (by decide) (q_move e21_0) ?_
      obtain ⟨a22, ha23, h⟩ := h
      refine GoOps.q (v := .pointer (some a22)) rfl rfl (by decide) (q_nilCheck (ptn rfl ha23)) ?_
      refine GoOps.q (v := .pointer (some (a22.add 4))) rfl rfl (by decide) (q_fieldAddr foff81_2 rfl) ?_
      obtain ⟨x24, hx25, h⟩ := h
      refine GoOps.q (v := Sl.v x24) rfl rfl (by decide) (q_load scalar23 rfl hx25) ?_
      refine GoOps.q (v := .int .i64 y6) rfl rfl (by decide) (q_move e21_7) ?_
      obtain ⟨a26, ha27, h⟩ := h
      refine GoOps.q (v := .pointer (some a26)) rfl rfl (by decide) (q_idx slice23 ha27 rfl rfl) ?_
      obtain ⟨x28, hx29, h⟩ := h
      refine GoOps.q (v := .int .i64 x28) rfl rfl (by decide) (q_load scalar3 rfl hx29) ?_
      refine GoOps.q (v := .int .i64 (IntKind.wrap .i64 (2147483647 - x28))) rfl rfl (by decide) (q_sub rfl rfl) ?_
      refine GoOps.q (v := .bool (decide ((IntKind.wrap .i64 (2147483647 - x28)) < s18))) rfl rfl (by decide) (q_gtr rfl rfl) ?_
      refine GoOps.nil ?_
      refine join_go 1 (fun ρ (s30 : Int) => ρ 0 = .pointer p0 ∧ ρ 2 = .int .i64 s30 ∧ ρ 7 = .int .i64 y6) h ?_ ?_ <;> clear h
      · intro s30 H32 ρ h hE
        obtain ⟨e33_0, e33_2, e33_7⟩ := hE
        refine Go.seq ?_
        refine Go.draw mixed ?_
        refine plan_pure (i := 0) (d := 58) (S2 := 1) (v := .pointer p0) rfl (by decide +kernel) rfl (q_move e33_0) ?_
        obtain ⟨a34, ha35, h⟩ := h
        refine plan_pure (i := 1) (d := 59) (S2 := 3) (v := .pointer (some a34)) rfl (by decide +kernel) rfl (q_nilCheck (ptn rfl ha35)) ?_
        refine plan_pure (i := 2) (d := 60) (S2 := 7) (v := .pointer (some (a34.add 4))) rfl (by decide +kernel) rfl (q_fieldAddr foff81_2 rfl) ?_
        obtain ⟨x36, hx37, h⟩ := h
        refine plan_load (i := 3) (d := 61) (S2 := 15) (v := Sl.v x36) rfl (by decide +kernel) rfl (q_load scalar23 rfl hx37) ?_
        refine plan_pure (i := 4) (d := 62) (S2 := 31) (v := .int .i64 y6) rfl (by decide +kernel) rfl (q_move e33_7) ?_
        refine plan_pure (i := 5) (d := 63) (S2 := 63) (v := .pointer p0) rfl (by decide +kernel) rfl (q_move e33_0) ?_
        obtain ⟨a38, ha39, h⟩ := h
        refine plan_pure (i := 6) (d := 64) (S2 := 127) (v := .pointer (some a38)) rfl (by decide +kernel) rfl (q_nilCheck (ptn rfl ha39)) ?_
        refine plan_pure (i := 7) (d := 65) (S2 := 255) (v := .pointer (some (a38.add 4))) rfl (by decide +kernel) rfl (q_fieldAddr foff81_2 rfl) ?_
        obtain ⟨x40, hx41, h⟩ := h
        refine plan_load (i := 8) (d := 66) (S2 := 511) (v := Sl.v x40) rfl (by decide +kernel) rfl (q_load scalar23 rfl hx41) ?_
        refine plan_pure (i := 9) (d := 67) (S2 := 1023) (v := .int .i64 y6) rfl (by decide +kernel) rfl (q_move e33_7) ?_
        obtain ⟨a42, ha43, h⟩ := h
        refine plan_pure (i := 10) (d := 68) (S2 := 2047) (v := .pointer (some a42)) rfl (by decide +kernel) rfl (q_idx slice23 ha43 rfl rfl) ?_
        obtain ⟨x44, hx45, h⟩ := h
        refine plan_load (i := 11) (d := 69) (S2 := 4095) (v := .int .i64 x44) rfl (by decide +kernel) rfl (q_load scalar3 rfl hx45) ?_
        refine plan_pure (i := 12) (d := 70) (S2 := 8191) (v := .int .i64 s30) rfl (by decide +kernel) rfl (q_move e33_2) ?_
        refine plan_pure (i := 13) (d := 71) (S2 := 16383) (v := .int .i64 (IntKind.wrap .i64 (x44 + s30))) rfl (by decide +kernel) rfl (q_add rfl rfl) ?_
        obtain ⟨a46, ha47, h⟩ := h
        refine plan_pure (i := 14) (d := 72) (S2 := 32767) (v := .pointer (some a46)) rfl (by decide +kernel) rfl (q_idx slice23 ha47 rfl rfl) ?_
        refine plan_one (j := 15) (S2 := 65535) (by decide +kernel) rfl (by decide) rfl ?_
        obtain ⟨q49b, q49o, q49c, q49e, hq49a, hq49b, hq49l, hq49v, h⟩ := h
        refine do_store (vs := [.int .i64 (IntKind.wrap .i64 (x44 + s30))]) size3 (pta rfl hq49a) rfl rfl rfl hq49v hq49b hq49l ?_
        refine ⟨_, (.inl ⟨⟨[15], by decide +kernel, rfl⟩, .inl ⟨⟨[15], by decide +kernel, rfl⟩, .inl ⟨⟨[15], by decide +kernel, rfl⟩, rfl⟩⟩⟩), ?_⟩
        refine plan_done (by decide +kernel) ?_
        refine Go.seq ?_
        refine Go.region rfl ?_
        refine GoOps.q (v := .bool true) rfl rfl (by decide) (q_assign rfl) ?_
        refine GoOps.nil ?_
        exact Go.ret ⟨.inl rfl, _, _, DOk.nil, (resOk1 Try.results29 rfl), ⟨_, rfl, h⟩⟩
      · intro j31 hj31 h
        rcases bor (decide ((IntKind.wrap .i64 (2147483647 - x28)) < s18)) with hc50 | hc50
        · have h := h.1 hc50
          refine Go.condT (btT rfl hc50) ?_
          refine Go.region rfl ?_
          refine GoOps.q (v := .pointer p0) rfl rfl (by decide) (q_move e21_0) ?_
          obtain ⟨a51, ha52, h⟩ := h
          refine GoOps.q (v := .pointer (some a51)) rfl rfl (by decide) (q_nilCheck (ptn rfl ha52)) ?_
          refine GoOps.q (v := .pointer (some (a51.add 4))) rfl rfl (by decide) (q_fieldAddr foff81_2 rfl) ?_
          obtain ⟨x53, hx54, h⟩ := h
          refine GoOps.q (v := Sl.v x53) rfl rfl (by decide) (q_load scalar23 rfl hx54) ?_
          refine GoOps.q (v := .int .i64 y6) rfl rfl (by decide) (q_move e21_7) ?_
          obtain ⟨a55, ha56, h⟩ := h
          refine GoOps.q (v := .pointer (some a55)) rfl rfl (by decide) (q_idx slice23 ha56 rfl rfl) ?_
          obtain ⟨x57, hx58, h⟩ := h
          refine GoOps.q (v := .int .i64 x57) rfl rfl (by decide) (q_load scalar3 rfl hx58) ?_
          refine GoOps.q (v := .int .i64 (IntKind.wrap .i64 (2147483647 - x57))) rfl rfl (by decide) (q_sub rfl rfl) ?_
          refine GoOps.q (v := .int .i64 (IntKind.wrap .i64 (2147483647 - x57))) rfl rfl (by decide) (q_assign rfl) ?_
          refine GoOps.nil ?_
          exact hj31 _ _ _ h ⟨e21_0, rfl, e21_7⟩
        · have h := h.2 hc50
          refine Go.condF (btF rfl hc50) ?_
          refine Go.skip ?_
          exact hj31 _ _ _ h ⟨e21_0, e21_2, e21_7⟩
    · intro j19 hj19 h
      rcases bor (decide (p2 < (IntKind.wrap .i64 (0 - x16)))) with hc59 | hc59
      · have h := h.1 hc59
        refine Go.condT (btT rfl hc59) ?_
        refine Go.region rfl ?_
        refine GoOps.q (v := .pointer p0) rfl rfl (by decide) (q_move rfl) ?_
        obtain ⟨a60, ha61, h⟩ := h
        refine GoOps.q (v := .pointer (some a60)) rfl rfl (by decide) (q_nilCheck (ptn rfl ha61)) ?_
        refine GoOps.q (v := .pointer (some (a60.add 4))) rfl rfl (by decide) (q_fieldAddr foff81_2 rfl) ?_
        obtain ⟨x62, hx63, h⟩ := h
        refine GoOps.q (v := Sl.v x62) rfl rfl (by decide) (q_load scalar23 rfl hx63) ?_
        refine GoOps.q (v := .int .i64 y6) rfl rfl (by decide) (q_move rfl) ?_
        obtain ⟨a64, ha65, h⟩ := h
        refine GoOps.q (v := .pointer (some a64)) rfl rfl (by decide) (q_idx slice23 ha65 rfl rfl) ?_
        obtain ⟨x66, hx67, h⟩ := h
        refine GoOps.q (v := .int .i64 x66) rfl rfl (by decide) (q_load scalar3 rfl hx67) ?_
        refine GoOps.q (v := .int .i64 (IntKind.wrap .i64 (0 - x66))) rfl rfl (by decide) (q_neg rfl) ?_
        refine GoOps.q (v := .int .i64 (IntKind.wrap .i64 (0 - x66))) rfl rfl (by decide) (q_assign rfl) ?_
        refine GoOps.nil ?_
        exact hj19 _ _ _ h ⟨rfl, rfl, rfl⟩
      · have h := h.2 hc59
        refine Go.condF (btF rfl hc59) ?_
        refine Go.skip ?_
        exact hj19 _ _ _ h ⟨rfl, rfl, rfl⟩

/-- (*keelson.usage.Table).Touch -/
def usage_Table_Touch (p0 : Option Addr) (p1 : Int) (p2 : Int) (H : PH) (Q : PH → Prop) : Prop :=
  usage_Table_has p0 p1 H fun y2 H1 =>
  mJoin (fun (s4 : Bool) (H6 : PH) =>
  mJoin (fun (s9 : Bool) (H11 : PH) =>
  mIf s9
  (mNil p0 fun a14 =>
  mLd Sl.v H11 (a14.add 1) fun x16 =>
  mIdx x16 2 p1 fun a18 =>
  mSt H11 (a18.add 1) ([.int .i64 p2]) fun H20 =>
  Q H20)
  (Q H11))
  fun j10 =>
  mIf s4
  (j10 (decide (p2 ≤ 2147483647)) H6)
  (j10 false H6))
  fun j5 =>
  mIf y2
  (j5 (decide (0 ≤ p2)) H1)
  (j5 false H1)

set_option maxRecDepth 20000 in
set_option maxHeartbeats 1000000 in
theorem usage_Table_Touch_s (p0 : Option Addr) (p1 : Int) (p2 : Int) (H : PH) (Q : PH → Prop) (h : usage_Table_Touch p0 p1 p2 H Q) :
    CallsH Try.prog 30 #[.pointer p0, .int .i64 p1, .int .i64 p2] H (fun v H' => v = .tuple #[] ∧ Q H') := by
  unfold usage_Table_Touch at h
  refine callsH_of_go Try.func30 rfl Try.ntmps30 (Nat.le_of_ble_eq_true rfl) ?_
  refine Go.seq ?_
  refine Go.region rfl ?_
  refine GoOps.q (v := .pointer p0) rfl rfl (by decide) (q_move rfl) ?_
  refine GoOps.q (v := .int .i64 p1) rfl rfl (by decide) (q_move rfl) ?_
  refine call_dst rfl (by decide) body39 (usage_Table_has_s _ _ _ _ h) rfl ?_
  rintro _ H1 ⟨y2, rfl, h⟩
  refine GoOps.q (v := .bool y2) rfl rfl (by decide) (q_move rfl) ?_
  refine join_ops 3 (fun ρ (s4 : Bool) => ρ 0 = .pointer p0 ∧ ρ 1 = .int .i64 p1 ∧ ρ 2 = .int .i64 p2 ∧ ρ 12 = .bool s4) h ?_ ?_ <;> clear h
  · intro s4 H6 ρ h hE
    obtain ⟨e7_0, e7_1, e7_2, e7_12⟩ := hE
    refine GoOps.q (v := .bool s4) rfl rfl (by decide) (q_move e7_12) ?_
    refine join_ops 3 (fun ρ (s9 : Bool) => ρ 0 = .pointer p0 ∧ ρ 1 = .int .i64 p1 ∧ ρ 2 = .int .i64 p2 ∧ ρ 16 = .bool s9) h ?_ ?_ <;> clear h
    · intro s9 H11 ρ h hE
      obtain ⟨e12_0, e12_1, e12_2, e12_16⟩ := hE
      refine GoOps.nil ?_
      rcases bor s9 with hc13 | hc13
      · have h := h.1 hc13
        refine Go.condT (btT e12_16 hc13) ?_
        refine Go.region rfl ?_
        refine GoOps.q (v := .pointer p0) rfl rfl (by decide) (q_move e12_0) ?_
        obtain ⟨a14, ha15, h⟩ := h
        refine GoOps.q (v := .pointer (some a14)) rfl rfl (by decide) (q_nilCheck (ptn rfl ha15)) ?_
        refine GoOps.q (v := .pointer (some (a14.add 1))) rfl rfl (by decide) (q_fieldAddr foff71_1 rfl) ?_
        obtain ⟨x16, hx17, h⟩ := h
        refine GoOps.q (v := Sl.v x16) rfl rfl (by decide) (q_load scalar50 rfl hx17) ?_
        refine GoOps.q (v := .int .i64 p1) rfl rfl (by decide) (q_move e12_1) ?_
        refine GoOps.q (v := .int .i64 p2) rfl rfl (by decide) (q_move e12_2) ?_
        obtain ⟨a18, ha19, h⟩ := h
        refine GoOps.q (v := .pointer (some a18)) rfl rfl (by decide) (q_idx slice50 ha19 rfl rfl) ?_
        refine GoOps.q (v := .pointer (some (a18.add 1))) rfl rfl (by decide) (q_fieldAddr foff52_1 rfl) ?_
        obtain ⟨q21b, q21o, q21c, q21e, hq21a, hq21b, hq21l, hq21v, h⟩ := h
        refine op_none rfl rfl (do_store (vs := [.int .i64 p2]) size3 (pta rfl hq21a) rfl rfl rfl hq21v hq21b hq21l ?_) 
        refine GoOps.nil ?_
        exact Go.fall ⟨.inr rfl, _, _, DOk.nil, (resOk0 Try.results30), ⟨rfl, h⟩⟩
      · have h := h.2 hc13
        refine Go.condF (btF e12_16 hc13) ?_
        refine Go.skip ?_
        exact Go.fall ⟨.inr rfl, _, _, DOk.nil, (resOk0 Try.results30), ⟨rfl, h⟩⟩
    · intro j10 hj10 h
      rcases bor s4 with hc8 | hc8
      · have h := h.1 hc8
        refine GoOps.q (v := .int .i64 p2) (want_yes rfl rfl rfl hc8) rfl (by decide) (q_move e7_2) ?_
        refine GoOps.q (v := .bool (decide (p2 ≤ 2147483647))) (want_yes rfl rfl rfl hc8) rfl (by decide) (q_leq rfl rfl) ?_
        refine GoOps.q (v := .bool (decide (p2 ≤ 2147483647))) rfl rfl (by decide) (q_pickT (btT rfl hc8) rfl) ?_
        exact hj10 (decide (p2 ≤ 2147483647)) _ _ h (by exact ⟨e7_0, e7_1, e7_2, rfl⟩)
      · have h := h.2 hc8
        refine no_dst (want_no rfl rfl rfl hc8) rfl (by decide) ?_
        refine no_dst (want_no rfl rfl rfl hc8) rfl (by decide) ?_
        refine GoOps.q (v := .bool false) rfl rfl (by decide) (q_pickF (btF rfl hc8) rfl) ?_
        exact hj10 false _ _ h (by exact ⟨e7_0, e7_1, e7_2, rfl⟩)
  · intro j5 hj5 h
    rcases bor y2 with hc3 | hc3
    · have h := h.1 hc3
      refine GoOps.q (v := .int .i64 p2) (want_yes rfl rfl rfl hc3) rfl (by decide) (q_move rfl) ?_
      refine GoOps.q (v := .bool (decide (0 ≤ p2))) (want_yes rfl rfl rfl hc3) rfl (by decide) (q_geq rfl rfl) ?_
      refine GoOps.q (v := .bool (decide (0 ≤ p2))) rfl rfl (by decide) (q_pickT (btT rfl hc3) rfl) ?_
      exact hj5 (decide (0 ≤ p2)) _ _ h (by exact ⟨rfl, rfl, rfl, rfl⟩)
    · have h := h.2 hc3
      refine no_dst (want_no rfl rfl rfl hc3) rfl (by decide) ?_
      refine no_dst (want_no rfl rfl rfl hc3) rfl (by decide) ?_
      refine GoOps.q (v := .bool false) rfl rfl (by decide) (q_pickF (btF rfl hc3) rfl) ?_
      exact hj5 false _ _ h (by exact ⟨rfl, rfl, rfl, rfl⟩)

/-- (*keelson.keelsonref11.Table).Touch -/
def keelsonref11_Table_Touch (p0 : Option Addr) (p1 : Int) (p2 : Int) (H : PH) (Q : PH → Prop) : Prop :=
  keelsonref11_Table_there p0 p1 H fun y2 H1 =>
  mJoin (fun (s4 : Bool) (H6 : PH) =>
  mIf s4
  (mNil p0 fun a9 =>
  mLd Sl.v H6 (a9.add 3) fun x11 =>
  mIdx x11 2 p1 fun a13 =>
  mSt H6 (a13.add 1) ([.int .i64 p2]) fun H15 =>
  Q H15)
  (Q H6))
  fun j5 =>
  mIf y2
  (keelsonref1_Within p2 0 2147483647 H1 fun y18 H17 =>
  j5 y18 H17)
  (j5 false H1)

set_option maxRecDepth 20000 in
set_option maxHeartbeats 1000000 in
theorem keelsonref11_Table_Touch_s (p0 : Option Addr) (p1 : Int) (p2 : Int) (H : PH) (Q : PH → Prop) (h : keelsonref11_Table_Touch p0 p1 p2 H Q) :
    CallsH Try.prog 31 #[.pointer p0, .int .i64 p1, .int .i64 p2] H (fun v H' => v = .tuple #[] ∧ Q H') := by
  unfold keelsonref11_Table_Touch at h
  refine callsH_of_go Try.func31 rfl Try.ntmps31 (Nat.le_of_ble_eq_true rfl) ?_
  refine Go.seq ?_
  refine Go.region rfl ?_
  refine GoOps.q (v := .pointer p0) rfl rfl (by decide) (q_move rfl) ?_
  refine GoOps.q (v := .int .i64 p1) rfl rfl (by decide) (q_move rfl) ?_
  refine call_dst rfl (by decide) body56 (keelsonref11_Table_there_s _ _ _ _ h) rfl ?_
  rintro _ H1 ⟨y2, rfl, h⟩
  refine GoOps.q (v := .bool y2) rfl rfl (by decide) (q_move rfl) ?_
  refine join_ops 3 (fun ρ (s4 : Bool) => ρ 0 = .pointer p0 ∧ ρ 1 = .int .i64 p1 ∧ ρ 2 = .int .i64 p2 ∧ ρ 12 = .bool s4) h ?_ ?_ <;> clear h
  · intro s4 H6 ρ h hE
    obtain ⟨e7_0, e7_1, e7_2, e7_12⟩ := hE
    refine GoOps.nil ?_
    rcases bor s4 with hc8 | hc8
    · have h := h.1 hc8
      refine Go.condT (btT e7_12 hc8) ?_
      refine Go.region rfl ?_
      refine GoOps.q (v := .pointer p0) rfl rfl (by decide) (q_move e7_0) ?_
      obtain ⟨a9, ha10, h⟩ := h
      refine GoOps.q (v := .pointer (some a9)) rfl rfl (by decide) (q_nilCheck (ptn rfl ha10)) ?_
      refine GoOps.q (v := .pointer (some (a9.add 3))) rfl rfl (by decide) (q_fieldAddr foff81_1 rfl) ?_
      obtain ⟨x11, hx12, h⟩ := h
      refine GoOps.q (v := Sl.v x11) rfl rfl (by decide) (q_load scalar50 rfl hx12) ?_
      refine GoOps.q (v := .int .i64 p1) rfl rfl (by decide) (q_move e7_1) ?_
      refine GoOps.q (v := .int .i64 p2) rfl rfl (by decide) (q_move e7_2) ?_
      obtain ⟨a13, ha14, h⟩ := h
      refine GoOps.q (v := .pointer (some a13)) rfl rfl (by decide) (q_idx slice50 ha14 rfl rfl) ?_
      refine GoOps.q (v := .pointer (some (a13.add 1))) rfl rfl (by decide) (q_fieldAddr foff52_1 rfl) ?_
      obtain ⟨q16b, q16o, q16c, q16e, hq16a, hq16b, hq16l, hq16v, h⟩ := h
      refine op_none rfl rfl (do_store (vs := [.int .i64 p2]) size3 (pta rfl hq16a) rfl rfl rfl hq16v hq16b hq16l ?_) 
      refine GoOps.nil ?_
      exact Go.fall ⟨.inr rfl, _, _, DOk.nil, (resOk0 Try.results31), ⟨rfl, h⟩⟩
    · have h := h.2 hc8
      refine Go.condF (btF e7_12 hc8) ?_
      refine Go.skip ?_
      exact Go.fall ⟨.inr rfl, _, _, DOk.nil, (resOk0 Try.results31), ⟨rfl, h⟩⟩
  · intro j5 hj5 h
    rcases bor y2 with hc3 | hc3
    · have h := h.1 hc3
      refine GoOps.q (v := .int .i64 p2) (want_yes rfl rfl rfl hc3) rfl (by decide) (q_move rfl) ?_
      refine call_dst (want_yes rfl rfl rfl hc3) (by decide) body48 (keelsonref1_Within_s _ _ _ _ _ h) rfl ?_
      rintro _ H17 ⟨y18, rfl, h⟩
      refine GoOps.q (v := .bool y18) rfl rfl (by decide) (q_pickT (btT rfl hc3) rfl) ?_
      exact hj5 y18 _ _ h (by exact ⟨rfl, rfl, rfl, rfl⟩)
    · have h := h.2 hc3
      refine no_dst (want_no rfl rfl rfl hc3) rfl (by decide) ?_
      refine no_dst (want_no rfl rfl rfl hc3) rfl (by decide) ?_
      refine GoOps.q (v := .bool false) rfl rfl (by decide) (q_pickF (btF rfl hc3) rfl) ?_
      exact hj5 false _ _ h (by exact ⟨rfl, rfl, rfl, rfl⟩)

/-- (*keelson.keelsonref11.Table).Next -/
def keelsonref11_Table_Next (p0 : Option Addr) (p1 : Bool) (H : PH) (Q : Int → PH → Prop) : Prop :=
  mJoin (fun (s1 : Int) (H3 : PH) =>
  keelsonref11_Table_Free p0 H3 fun y6 H5 =>
  mIf (decide (y6 ≤ s1))
  (Q (-1) H5)
  (mLoop (fun (s8 : Int) (H11 : PH) (again9 : Int → PH → Prop) =>
  mNil p0 fun a12 =>
  mLd Sl.v H11 (a12.add 3) fun x14 =>
  mIf (decide (s8 < (x14.len : Int)))
  (mNil p0 fun a17 =>
  mLd Sl.v H11 (a17.add 3) fun x19 =>
  mIdx x19 2 s8 fun a21 =>
  mLd (.int .i64) H11 (a21.add 0) fun x23 =>
  mIf (x23 == 0)
  (Q s8 H11)
  (again9 (IntKind.wrap .i64 (s8 + 1)) H11))
  (Q (-1) H11))
  0 H5))
  fun j2 =>
  mIf p1
  (j2 0 H)
  (j2 2 H)

set_option maxRecDepth 20000 in
set_option maxHeartbeats 1000000 in
theorem keelsonref11_Table_Next_s (p0 : Option Addr) (p1 : Bool) (H : PH) (Q : Int → PH → Prop) (h : keelsonref11_Table_Next p0 p1 H Q) :
    CallsH Try.prog 32 #[.pointer p0, .bool p1] H (fun v H' => ∃ (r0 : Int), v = .int .i64 r0 ∧ Q r0 H') := by
  unfold keelsonref11_Table_Next at h
  refine callsH_of_go Try.func32 rfl Try.ntmps32 (Nat.le_of_ble_eq_true rfl) ?_
  refine Go.seq ?_
  refine Go.region rfl ?_
  refine GoOps.q (v := .int .i64 0) rfl rfl (by decide) (q_assign rfl) ?_
  refine GoOps.nil ?_
  refine Go.seq ?_
  refine Go.region rfl ?_
  refine GoOps.q (v := .int .i64 2) rfl rfl (by decide) (q_assign rfl) ?_
  refine GoOps.nil ?_
  refine Go.seq ?_
  refine Go.seq ?_
  refine Go.region rfl ?_
  refine GoOps.q (v := .bool p1) rfl rfl (by decide) (q_move rfl) ?_
  refine GoOps.nil ?_
  refine join_go 1 (fun ρ (s1 : Int) => ρ 0 = .pointer p0 ∧ ρ 5 = .int .i64 s1) h ?_ ?_ <;> clear h
  · intro s1 H3 ρ h hE
    obtain ⟨e4_0, e4_5⟩ := hE
    refine Go.seq ?_
    refine Go.seq ?_
    refine Go.region rfl ?_
    refine GoOps.q (v := .pointer p0) rfl rfl (by decide) (q_move e4_0) ?_
    refine call_dst rfl (by decide) body52 (keelsonref11_Table_Free_s _ _ _ h) rfl ?_
    rintro _ H5 ⟨y6, rfl, h⟩
    refine GoOps.q (v := .int .i64 s1) rfl rfl (by decide) (q_move e4_5) ?_
    refine GoOps.q (v := .bool (decide (y6 ≤ s1))) rfl rfl (by decide) (q_leq rfl rfl) ?_
    refine GoOps.nil ?_
    rcases bor (decide (y6 ≤ s1)) with hc7 | hc7
    · have h := h.1 hc7
      refine Go.condT (btT rfl hc7) ?_
      refine Go.seq ?_
      refine Go.region rfl ?_
      refine GoOps.q (v := .int .i64 (-1)) rfl rfl (by decide) (q_assign rfl) ?_
      refine GoOps.nil ?_
      exact Go.ret ⟨.inl rfl, _, _, DOk.nil, (resOk1 Try.results32 rfl), ⟨_, rfl, h⟩⟩
    · have h := h.2 hc7
      refine Go.condF (btF rfl hc7) ?_
      refine Go.skip ?_
      refine Go.seq ?_
      refine Go.seq ?_
      refine Go.region rfl ?_
      refine GoOps.q (v := .int .i64 0) rfl rfl (by decide) (q_assign rfl) ?_
      refine GoOps.nil ?_
      refine Go.block ?_
      refine loop_go (fun ρ (s8 : Int) => ρ 0 = .pointer p0 ∧ ρ 6 = .int .i64 s8) h ⟨e4_0, rfl⟩ ?_
      clear h
      intro ρ s8 H11 again9 hE h hagain9
      obtain ⟨e10_0, e10_6⟩ := hE
      refine Go.seq ?_
      refine Go.seq ?_
      refine Go.region rfl ?_
      refine GoOps.q (v := .int .i64 s8) rfl rfl (by decide) (q_move e10_6) ?_
      refine GoOps.q (v := .pointer p0) rfl rfl (by decide) (q_move e10_0) ?_
      obtain ⟨a12, ha13, h⟩ := h
      refine GoOps.q (v := .pointer (some a12)) rfl rfl (by decide) (q_nilCheck (ptn rfl ha13)) ?_
      refine GoOps.q (v := .pointer (some (a12.add 3))) rfl rfl (by decide) (q_fieldAddr foff81_1 rfl) ?_
      obtain ⟨x14, hx15, h⟩ := h
      refine GoOps.q (v := Sl.v x14) rfl rfl (by decide) (q_load scalar50 rfl hx15) ?_
      refine GoOps.q (v := .int .i64 (x14.len : Int)) rfl rfl (by decide) (q_len Try.underlying50 rfl (ls1 rfl)) ?_
      refine GoOps.q (v := .bool (decide (s8 < (x14.len : Int)))) rfl rfl (by decide) (q_lss rfl rfl) ?_
      refine GoOps.nil ?_
      rcases bor (decide (s8 < (x14.len : Int))) with hc16 | hc16
      · have h := h.1 hc16
        refine Go.condT (btT rfl hc16) ?_
        refine Go.skip ?_
        refine Go.seq ?_
        refine Go.block ?_
        refine Go.seq ?_
        refine Go.region rfl ?_
        refine GoOps.q (v := .pointer p0) rfl rfl (by decide) (q_move e10_0) ?_
        obtain ⟨a17, ha18, h⟩ := h
        refine GoOps.q (v := .pointer (some a17)) rfl rfl (by decide) (q_nilCheck (ptn rfl ha18)) ?_
        refine GoOps.q (v := .pointer (some (a17.add 3))) rfl rfl (by decide) (q_fieldAddr foff81_1 rfl) ?_
        obtain ⟨x19, hx20, h⟩ := h
        refine GoOps.q (v := Sl.v x19) rfl rfl (by decide) (q_load scalar50 rfl hx20) ?_
        refine GoOps.q (v := .int .i64 s8) rfl rfl (by decide) (q_move e10_6) ?_
        obtain ⟨a21, ha22, h⟩ := h
        refine GoOps.q (v := .pointer (some a21)) rfl rfl (by decide) (q_idx slice50 ha22 rfl rfl) ?_
        refine GoOps.q (v := .pointer (some (a21.add 0))) rfl rfl (by decide) (q_fieldAddr foff52_0 rfl) ?_
        obtain ⟨x23, hx24, h⟩ := h
        refine GoOps.q (v := .int .i64 x23) rfl rfl (by decide) (q_load scalar3 rfl hx24) ?_
        refine GoOps.q (v := .bool (x23 == 0)) rfl rfl (by decide) (q_eql rfl rfl) ?_
        refine GoOps.nil ?_
        rcases bor (x23 == 0) with hc25 | hc25
        · have h := h.1 hc25
          refine Go.condT (btT rfl hc25) ?_
          refine Go.seq ?_
          refine Go.region rfl ?_
          refine GoOps.q (v := .int .i64 s8) rfl rfl (by decide) (q_move e10_6) ?_
          refine GoOps.q (v := .int .i64 s8) rfl rfl (by decide) (q_assign rfl) ?_
          refine GoOps.nil ?_
          exact Go.ret ⟨.inl rfl, _, _, DOk.nil, (resOk1 Try.results32 rfl), ⟨_, rfl, h⟩⟩
        · have h := h.2 hc25
          refine Go.condF (btF rfl hc25) ?_
          refine Go.skip ?_
          refine Go.inBlock ?_
          refine Go.region rfl ?_
          refine GoOps.q (v := .int .i64 s8) rfl rfl (by decide) (q_move e10_6) ?_
          refine GoOps.q (v := .int .i64 (IntKind.wrap .i64 (s8 + 1))) rfl rfl (by decide) (q_add rfl rfl) ?_
          refine GoOps.q (v := .int .i64 (IntKind.wrap .i64 (s8 + 1))) rfl rfl (by decide) (q_assign rfl) ?_
          refine GoOps.nil ?_
          exact hagain9 _ _ _ h ⟨e10_0, rfl⟩
      · have h := h.2 hc16
        refine Go.condF (btF rfl hc16) ?_
        refine Go.exit rfl ?_
        refine Go.seq ?_
        refine Go.region rfl ?_
        refine GoOps.q (v := .int .i64 (-1)) rfl rfl (by decide) (q_assign rfl) ?_
        refine GoOps.nil ?_
        exact Go.ret ⟨.inl rfl, _, _, DOk.nil, (resOk1 Try.results32 rfl), ⟨_, rfl, h⟩⟩
  · intro j2 hj2 h
    rcases bor p1 with hc26 | hc26
    · have h := h.1 hc26
      refine Go.condT (btT rfl hc26) ?_
      refine Go.region rfl ?_
      refine GoOps.q (v := .int .i64 0) rfl rfl (by decide) (q_assign rfl) ?_
      refine GoOps.nil ?_
      exact hj2 _ _ _ h ⟨rfl, rfl⟩
    · have h := h.2 hc26
      refine Go.condF (btF rfl hc26) ?_
      refine Go.skip ?_
      exact hj2 _ _ _ h ⟨rfl, rfl⟩

/-- (*keelson.keelsonref11.Table).Grab -/
def keelsonref11_Table_Grab (p0 : Option Addr) (p1 : Int) (H : PH) (Q : Bool → PH → Prop) : Prop :=
  keelsonref11_Table_there p0 p1 H fun y2 H1 =>
  mJoin (fun (s4 : Bool) (H6 : PH) =>
  mIf s4
  (Q false H6)
  (mNil p0 fun a9 =>
  mLd Sl.v H6 (a9.add 3) fun x11 =>
  mIdx x11 2 p1 fun a13 =>
  mSt H6 (a13.add 0) ([.int .i64 1]) fun H15 =>
  mNil p0 fun a17 =>
  mLd Sl.v H15 (a17.add 4) fun x19 =>
  mIdx x19 1 p1 fun a21 =>
  mSt H15 a21 ([.int .i64 0]) fun H23 =>
  Q true H23))
  fun j5 =>
  mIf (!y2)
  (j5 true H1)
  (mNil p0 fun a25 =>
  mLd Sl.v H1 (a25.add 3) fun x27 =>
  mIdx x27 2 p1 fun a29 =>
  mLd (.int .i64) H1 (a29.add 0) fun x31 =>
  j5 (x31 != 0) H1)

set_option maxRecDepth 20000 in
set_option maxHeartbeats 1000000 in
theorem keelsonref11_Table_Grab_s (p0 : Option Addr) (p1 : Int) (H : PH) (Q : Bool → PH → Prop) (h : keelsonref11_Table_Grab p0 p1 H Q) :
    CallsH Try.prog 33 #[.pointer p0, .int .i64 p1] H (fun v H' => ∃ (r0 : Bool), v = .bool r0 ∧ Q r0 H') := by
  unfold keelsonref11_Table_Grab at h
  refine callsH_of_go Try.func33 rfl Try.ntmps33 (Nat.le_of_ble_eq_true rfl) ?_
  refine Go.seq ?_
  refine Go.region rfl ?_
  refine GoOps.q (v := .bool false) rfl rfl (by decide) (q_assign rfl) ?_
  refine GoOps.nil ?_
  refine Go.seq ?_
  refine Go.seq ?_
  refine Go.region rfl ?_
  refine GoOps.q (v := .pointer p0) rfl rfl (by decide) (q_move rfl) ?_
  refine GoOps.q (v := .int .i64 p1) rfl rfl (by decide) (q_move rfl) ?_
  refine call_dst rfl (by decide) body56 (keelsonref11_Table_there_s _ _ _ _ h) rfl ?_
  rintro _ H1 ⟨y2, rfl, h⟩
  refine GoOps.q (v := .bool (!y2)) rfl rfl (by decide) (q_not rfl) ?_
  refine GoOps.q (v := .bool (!y2)) rfl rfl (by decide) (q_move rfl) ?_
  refine join_ops 10 (fun ρ (s4 : Bool) => ρ 0 = .pointer p0 ∧ ρ 1 = .int .i64 p1 ∧ ρ 19 = .bool s4) h ?_ ?_ <;> clear h
  · intro s4 H6 ρ h hE
    obtain ⟨e7_0, e7_1, e7_19⟩ := hE
    refine GoOps.nil ?_
    rcases bor s4 with hc8 | hc8
    · have h := h.1 hc8
      refine Go.condT (btT e7_19 hc8) ?_
      refine Go.seq ?_
      refine Go.region rfl ?_
      refine GoOps.q (v := .bool false) rfl rfl (by decide) (q_assign rfl) ?_
      refine GoOps.nil ?_
      exact Go.ret ⟨.inl rfl, _, _, DOk.nil, (resOk1 Try.results33 rfl), ⟨_, rfl, h⟩⟩
    · have h := h.2 hc8
      refine Go.condF (btF e7_19 hc8) ?_
      refine Go.skip ?_
      refine Go.seq ?_
      refine Go.region rfl ?_
      refine GoOps.q (v := .pointer p0) rfl rfl (by decide) (q_move e7_0) ?_
      obtain ⟨a9, ha10, h⟩ := h
      refine GoOps.q (v := .pointer (some a9)) rfl rfl (by decide) (q_nilCheck (ptn rfl ha10)) ?_
      refine GoOps.q (v := .pointer (some (a9.add 3))) rfl rfl (by decide) (q_fieldAddr foff81_1 rfl) ?_
      obtain ⟨x11, hx12, h⟩ := h
      refine GoOps.q (v := Sl.v x11) rfl rfl (by decide) (q_load scalar50 rfl hx12) ?_
      refine GoOps.q (v := .int .i64 p1) rfl rfl (by decide) (q_move e7_1) ?_
      obtain ⟨a13, ha14, h⟩ := h
      refine GoOps.q (v := .pointer (some a13)) rfl rfl (by decide) (q_idx slice50 ha14 rfl rfl) ?_
      refine GoOps.q (v := .pointer (some (a13.add 0))) rfl rfl (by decide) (q_fieldAddr foff52_0 rfl) ?_
      obtain ⟨q16b, q16o, q16c, q16e, hq16a, hq16b, hq16l, hq16v, h⟩ := h
      refine op_none rfl rfl (do_store (vs := [.int .i64 1]) size3 (pta rfl hq16a) rfl rfl rfl hq16v hq16b hq16l ?_) 
      refine GoOps.nil ?_
      refine Go.seq ?_
      refine Go.region rfl ?_
      refine GoOps.q (v := .pointer p0) rfl rfl (by decide) (q_move e7_0) ?_
      obtain ⟨a17, ha18, h⟩ := h
      refine GoOps.q (v := .pointer (some a17)) rfl rfl (by decide) (q_nilCheck (ptn rfl ha18)) ?_
      refine GoOps.q (v := .pointer (some (a17.add 4))) rfl rfl (by decide) (q_fieldAddr foff81_2 rfl) ?_
      obtain ⟨x19, hx20, h⟩ := h
      refine GoOps.q (v := Sl.v x19) rfl rfl (by decide) (q_load scalar23 rfl hx20) ?_
      refine GoOps.q (v := .int .i64 p1) rfl rfl (by decide) (q_move e7_1) ?_
      obtain ⟨a21, ha22, h⟩ := h
      refine GoOps.q (v := .pointer (some a21)) rfl rfl (by decide) (q_idx slice23 ha22 rfl rfl) ?_
      obtain ⟨q24b, q24o, q24c, q24e, hq24a, hq24b, hq24l, hq24v, h⟩ := h
      refine op_none rfl rfl (do_store (vs := [.int .i64 0]) size3 (pta rfl hq24a) rfl rfl rfl hq24v hq24b hq24l ?_) 
      refine GoOps.nil ?_
      refine Go.seq ?_
      refine Go.region rfl ?_
      refine GoOps.q (v := .bool true) rfl rfl (by decide) (q_assign rfl) ?_
      refine GoOps.nil ?_
      exact Go.ret ⟨.inl rfl, _, _, DOk.nil, (resOk1 Try.results33 rfl), ⟨_, rfl, h⟩⟩
  · intro j5 hj5 h
    rcases bor (!y2) with hc3 | hc3
    · have h := h.1 hc3
      refine no_dst (want_no rfl rfl rfl hc3) rfl (by decide) ?_
      refine no_dst (want_no rfl rfl rfl hc3) rfl (by decide) ?_
      refine no_dst (want_no rfl rfl rfl hc3) rfl (by decide) ?_
      refine no_dst (want_no rfl rfl rfl hc3) rfl (by decide) ?_
      refine no_dst (want_no rfl rfl rfl hc3) rfl (by decide) ?_
      refine no_dst (want_no rfl rfl rfl hc3) rfl (by decide) ?_
      refine no_dst (want_no rfl rfl rfl hc3) rfl (by decide) ?_
      refine no_dst (want_no rfl rfl rfl hc3) rfl (by decide) ?_
      refine no_dst (want_no rfl rfl rfl hc3) rfl (by decide) ?_
      refine GoOps.q (v := .bool true) rfl rfl (by decide) (q_pickT (btT rfl hc3) rfl) ?_
      exact hj5 true _ _ h (by exact ⟨rfl, rfl, rfl⟩)
    · have h := h.2 hc3
      refine GoOps.q (v := .pointer p0) (want_yes rfl rfl rfl hc3) rfl (by decide) (q_move rfl) ?_
      obtain ⟨a25, ha26, h⟩ := h
      refine GoOps.q (v := .pointer (some a25)) (want_yes rfl rfl rfl hc3) rfl (by decide) (q_nilCheck (ptn rfl ha26)) ?_
      refine GoOps.q (v := .pointer (some (a25.add 3))) (want_yes rfl rfl rfl hc3) rfl (by decide) (q_fieldAddr foff81_1 rfl) ?_
      obtain ⟨x27, hx28, h⟩ := h
      refine GoOps.q (v := Sl.v x27) (want_yes rfl rfl rfl hc3) rfl (by decide) (q_load scalar50 rfl hx28) ?_
      refine GoOps.q (v := .int .i64 p1) (want_yes rfl rfl rfl hc3) rfl (by decide) (q_move rfl) ?_
      obtain ⟨a29, ha30, h⟩ := h
      refine GoOps.q (v := .pointer (some a29)) (want_yes rfl rfl rfl hc3) rfl (by decide) (q_idx slice50 ha30 rfl rfl) ?_
      refine GoOps.q (v := .pointer (some (a29.add 0))) (want_yes rfl rfl rfl hc3) rfl (by decide) (q_fieldAddr foff52_0 rfl) ?_
      obtain ⟨x31, hx32, h⟩ := h
      refine GoOps.q (v := .int .i64 x31) (want_yes rfl rfl rfl hc3) rfl (by decide) (q_load scalar3 rfl hx32) ?_
      refine GoOps.q (v := .bool (x31 != 0)) (want_yes rfl rfl rfl hc3) rfl (by decide) (q_neq rfl rfl) ?_
      refine GoOps.q (v := .bool (x31 != 0)) rfl rfl (by decide) (q_pickF (btF rfl hc3) rfl) ?_
      exact hj5 (x31 != 0) _ _ h (by exact ⟨rfl, rfl, rfl⟩)

/-- (*keelson.keelsonref11.Table).Seal -/
def keelsonref11_Table_Seal (p0 : Option Addr) (p1 : Int) (H : PH) (Q : PH → Prop) : Prop :=
  keelsonref11_Table_there p0 p1 H fun y2 H1 =>
  mJoin (fun (s4 : Bool) (H6 : PH) =>
  mIf s4
  (mNil p0 fun a9 =>
  mLd Sl.v H6 (a9.add 3) fun x11 =>
  mIdx x11 2 p1 fun a13 =>
  mSt H6 (a13.add 0) ([.int .i64 2]) fun H15 =>
  Q H15)
  (Q H6))
  fun j5 =>
  mIf y2
  (mNil p0 fun a17 =>
  mLd Sl.v H1 (a17.add 3) fun x19 =>
  mIdx x19 2 p1 fun a21 =>
  mLd (.int .i64) H1 (a21.add 0) fun x23 =>
  j5 (x23 == 1) H1)
  (j5 false H1)

set_option maxRecDepth 20000 in
set_option maxHeartbeats 1000000 in
theorem keelsonref11_Table_Seal_s (p0 : Option Addr) (p1 : Int) (H : PH) (Q : PH → Prop) (h : keelsonref11_Table_Seal p0 p1 H Q) :
    CallsH Try.prog 34 #[.pointer p0, .int .i64 p1] H (fun v H' => v = .tuple #[] ∧ Q H') := by
  unfold keelsonref11_Table_Seal at h
  refine callsH_of_go Try.func34 rfl Try.ntmps34 (Nat.le_of_ble_eq_true rfl) ?_
  refine Go.seq ?_
  refine Go.region rfl ?_
  refine GoOps.q (v := .pointer p0) rfl rfl (by decide) (q_move rfl) ?_
  refine GoOps.q (v := .int .i64 p1) rfl rfl (by decide) (q_move rfl) ?_
  refine call_dst rfl (by decide) body56 (keelsonref11_Table_there_s _ _ _ _ h) rfl ?_
  rintro _ H1 ⟨y2, rfl, h⟩
  refine GoOps.q (v := .bool y2) rfl rfl (by decide) (q_move rfl) ?_
  refine join_ops 10 (fun ρ (s4 : Bool) => ρ 0 = .pointer p0 ∧ ρ 1 = .int .i64 p1 ∧ ρ 17 = .bool s4) h ?_ ?_ <;> clear h
  · intro s4 H6 ρ h hE
    obtain ⟨e7_0, e7_1, e7_17⟩ := hE
    refine GoOps.nil ?_
    rcases bor s4 with hc8 | hc8
    · have h := h.1 hc8
      refine Go.condT (btT e7_17 hc8) ?_
      refine Go.region rfl ?_
      refine GoOps.q (v := .pointer p0) rfl rfl (by decide) (q_move e7_0) ?_
      obtain ⟨a9, ha10, h⟩ := h
      refine GoOps.q (v := .pointer (some a9)) rfl rfl (by decide) (q_nilCheck (ptn rfl ha10)) ?_
      refine GoOps.q (v := .pointer (some (a9.add 3))) rfl rfl (by decide) (q_fieldAddr foff81_1 rfl) ?_
      obtain ⟨x11, hx12, h⟩ := h
      refine GoOps.q (v := Sl.v x11) rfl rfl (by decide) (q_load scalar50 rfl hx12) ?_
      refine GoOps.q (v := .int .i64 p1) rfl rfl (by decide) (q_move e7_1) ?_
      obtain ⟨a13, ha14, h⟩ := h
      refine GoOps.q (v := .pointer (some a13)) rfl rfl (by decide) (q_idx slice50 ha14 rfl rfl) ?_
      refine GoOps.q (v := .pointer (some (a13.add 0))) rfl rfl (by decide) (q_fieldAddr foff52_0 rfl) ?_
      obtain ⟨q16b, q16o, q16c, q16e, hq16a, hq16b, hq16l, hq16v, h⟩ := h
      refine op_none rfl rfl (do_store (vs := [.int .i64 2]) size3 (pta rfl hq16a) rfl rfl rfl hq16v hq16b hq16l ?_) 
      refine GoOps.nil ?_
      exact Go.fall ⟨.inr rfl, _, _, DOk.nil, (resOk0 Try.results34), ⟨rfl, h⟩⟩
    · have h := h.2 hc8
      refine Go.condF (btF e7_17 hc8) ?_
      refine Go.skip ?_
      exact Go.fall ⟨.inr rfl, _, _, DOk.nil, (resOk0 Try.results34), ⟨rfl, h⟩⟩
  · intro j5 hj5 h
    rcases bor y2 with hc3 | hc3
    · have h := h.1 hc3
      refine GoOps.q (v := .pointer p0) (want_yes rfl rfl rfl hc3) rfl (by decide) (q_move rfl) ?_
      obtain ⟨a17, ha18, h⟩ := h
      refine GoOps.q (v := .pointer (some a17)) (want_yes rfl rfl rfl hc3) rfl (by decide) (q_nilCheck (ptn rfl ha18)) ?_
      refine GoOps.q (v := .pointer (some (a17.add 3))) (want_yes rfl rfl rfl hc3) rfl (by decide) (q_fieldAddr foff81_1 rfl) ?_
      obtain ⟨x19, hx20, h⟩ := h
      refine GoOps.q (v := Sl.v x19) (want_yes rfl rfl rfl hc3) rfl (by decide) (q_load scalar50 rfl hx20) ?_
      refine GoOps.q (v := .int .i64 p1) (want_yes rfl rfl rfl hc3) rfl (by decide) (q_move rfl) ?_
      obtain ⟨a21, ha22, h⟩ := h
      refine GoOps.q (v := .pointer (some a21)) (want_yes rfl rfl rfl hc3) rfl (by decide) (q_idx slice50 ha22 rfl rfl) ?_
      refine GoOps.q (v := .pointer (some (a21.add 0))) (want_yes rfl rfl rfl hc3) rfl (by decide) (q_fieldAddr foff52_0 rfl) ?_
      obtain ⟨x23, hx24, h⟩ := h
      refine GoOps.q (v := .int .i64 x23) (want_yes rfl rfl rfl hc3) rfl (by decide) (q_load scalar3 rfl hx24) ?_
      refine GoOps.q (v := .bool (x23 == 1)) (want_yes rfl rfl rfl hc3) rfl (by decide) (q_eql rfl rfl) ?_
      refine GoOps.q (v := .bool (x23 == 1)) rfl rfl (by decide) (q_pickT (btT rfl hc3) rfl) ?_
      exact hj5 (x23 == 1) _ _ h (by exact ⟨rfl, rfl, rfl⟩)
    · have h := h.2 hc3
      refine no_dst (want_no rfl rfl rfl hc3) rfl (by decide) ?_
      refine no_dst (want_no rfl rfl rfl hc3) rfl (by decide) ?_
      refine no_dst (want_no rfl rfl rfl hc3) rfl (by decide) ?_
      refine no_dst (want_no rfl rfl rfl hc3) rfl (by decide) ?_
      refine no_dst (want_no rfl rfl rfl hc3) rfl (by decide) ?_
      refine no_dst (want_no rfl rfl rfl hc3) rfl (by decide) ?_
      refine no_dst (want_no rfl rfl rfl hc3) rfl (by decide) ?_
      refine no_dst (want_no rfl rfl rfl hc3) rfl (by decide) ?_
      refine no_dst (want_no rfl rfl rfl hc3) rfl (by decide) ?_
      refine GoOps.q (v := .bool false) rfl rfl (by decide) (q_pickF (btF rfl hc3) rfl) ?_
      exact hj5 false _ _ h (by exact ⟨rfl, rfl, rfl⟩)

/-- (*keelson.keelsonref11.Table).Release -/
def keelsonref11_Table_Release (p0 : Option Addr) (H : PH) (Q : Sl → PH → Prop) : Prop :=
  mLoop (fun (s1 : Sl × Int) (H4 : PH) (again2 : (Sl × Int) → PH → Prop) =>
  mNil p0 fun a5 =>
  mLd Sl.v H4 (a5.add 3) fun x7 =>
  mIf (decide (s1.2 < (x7.len : Int)))
  (mJoin (fun (s10 : Sl) (H12 : PH) =>
  again2 (s10, IntKind.wrap .i64 (s1.2 + 1)) H12)
  fun j11 =>
  mNil p0 fun a14 =>
  mLd Sl.v H4 (a14.add 3) fun x16 =>
  mIdx x16 2 s1.2 fun a18 =>
  mLd (.int .i64) H4 (a18.add 0) fun x20 =>
  mJoin (fun (s23 : Bool) (H25 : PH) =>
  mIf s23
  (mNil p0 fun a28 =>
  mLd Sl.v H25 (a28.add 3) fun x30 =>
  mIdx x30 2 s1.2 fun a32 =>
  mSt H25 (a32.add 0) ([.int .i64 0]) fun H34 =>
  mNewS H34 (row [.int .i64 s1.2] 3) 1 fun r36 H37 =>
  mApp H37 3 1 8 [.int .i64 0] s1.1 r36 fun r39 H40 =>
  j11 r39 H40)
  (j11 s1.1 H25))
  fun j24 =>
  mIf (x20 == 2)
  (mNil p0 fun a41 =>
  mLd Sl.v H4 (a41.add 4) fun x43 =>
  mIdx x43 1 s1.2 fun a45 =>
  mLd (.int .i64) H4 a45 fun x47 =>
  j24 (x47 == 0) H4)
  (j24 false H4))
  (Q s1.1 H4))
  (Sl.nil, 0) H

set_option maxRecDepth 20000 in
set_option maxHeartbeats 1000000 in
theorem keelsonref11_Table_Release_s (p0 : Option Addr) (H : PH) (Q : Sl → PH → Prop) (h : keelsonref11_Table_Release p0 H Q) :
    CallsH Try.prog 35 #[.pointer p0] H (fun v H' => ∃ (r0 : Sl), v = Sl.v r0 ∧ Q r0 H') := by
  unfold keelsonref11_Table_Release at h
  refine callsH_of_go Try.func35 rfl Try.ntmps35 (Nat.le_of_ble_eq_true rfl) ?_
  refine Go.seq ?_
  refine Go.region rfl ?_
  refine GoOps.q (v := Sl.v Sl.nil) rfl rfl (by decide) (q_assign rfl) ?_
  refine GoOps.nil ?_
  refine Go.seq ?_
  refine Go.region rfl ?_
  refine GoOps.q (v := Sl.v Sl.nil) rfl rfl (by decide) (q_assign rfl) ?_
  refine GoOps.nil ?_
  refine Go.seq ?_
  refine Go.seq ?_
  refine Go.region rfl ?_
  refine GoOps.q (v := .int .i64 0) rfl rfl (by decide) (q_assign rfl) ?_
  refine GoOps.nil ?_
  refine Go.block ?_
  refine loop_go (fun ρ (s1 : Sl × Int) => ρ 0 = .pointer p0 ∧ ρ 3 = Sl.v s1.1 ∧ ρ 4 = .int .i64 s1.2) h ⟨rfl, rfl, rfl⟩ ?_
  clear h
  intro ρ s1 H4 again2 hE h hagain2
  obtain ⟨e3_0, e3_3, e3_4⟩ := hE
  refine Go.seq ?_
  refine Go.seq ?_
  refine Go.region rfl ?_
  refine GoOps.q (v := .int .i64 s1.2) rfl rfl (by decide) (q_move e3_4) ?_
  refine GoOps.q (v := .pointer p0) rfl rfl (by decide) (q_move e3_0) ?_
  obtain ⟨a5, ha6, h⟩ := h
  refine GoOps.q (v := .pointer (some a5)) rfl rfl (by decide) (q_nilCheck (ptn rfl ha6)) ?_
  refine GoOps.q (v := .pointer (some (a5.add 3))) rfl rfl (by decide) (q_fieldAddr foff81_1 rfl) ?_
  obtain ⟨x7, hx8, h⟩ := h
  refine GoOps.q (v := Sl.v x7) rfl rfl (by decide) (q_load scalar50 rfl hx8) ?_
  refine GoOps.q (v := .int .i64 (x7.len : Int)) rfl rfl (by decide) (q_len Try.underlying50 rfl (ls1 rfl)) ?_
  refine GoOps.q (v := .bool (decide (s1.2 < (x7.len : Int)))) rfl rfl (by decide) (q_lss rfl rfl) ?_
  refine GoOps.nil ?_
  rcases bor (decide (s1.2 < (x7.len : Int))) with hc9 | hc9
  · have h := h.1 hc9
    refine Go.condT (btT rfl hc9) ?_
    refine Go.skip ?_
    refine Go.seq ?_
    refine join_go 1 (fun ρ (s10 : Sl) => ρ 0 = .pointer p0 ∧ ρ 3 = Sl.v s10 ∧ ρ 4 = .int .i64 s1.2) h ?_ ?_ <;> clear h
    · intro s10 H12 ρ h hE
      obtain ⟨e13_0, e13_3, e13_4⟩ := hE
      refine Go.region rfl ?_
      refine GoOps.q (v := .int .i64 s1.2) rfl rfl (by decide) (q_move e13_4) ?_
      refine GoOps.q (v := .int .i64 (IntKind.wrap .i64 (s1.2 + 1))) rfl rfl (by decide) (q_add rfl rfl) ?_
      refine GoOps.q (v := .int .i64 (IntKind.wrap .i64 (s1.2 + 1))) rfl rfl (by decide) (q_assign rfl) ?_
      refine GoOps.nil ?_
      exact hagain2 _ _ _ h ⟨e13_0, e13_3, rfl⟩
    · intro j11 hj11 h
      refine Go.block ?_
      refine Go.seq ?_
      refine Go.region rfl ?_
      refine GoOps.q (v := .pointer p0) rfl rfl (by decide) (q_move e3_0) ?_
      obtain ⟨a14, ha15, h⟩ := h
      refine GoOps.q (v := .pointer (some a14)) rfl rfl (by decide) (q_nilCheck (ptn rfl ha15)) ?_
      refine GoOps.q (v := .pointer (some (a14.add 3))) rfl rfl (by decide) (q_fieldAddr foff81_1 rfl) ?_
      obtain ⟨x16, hx17, h⟩ := h
      refine GoOps.q (v := Sl.v x16) rfl rfl (by decide) (q_load scalar50 rfl hx17) ?_
      refine GoOps.q (v := .int .i64 s1.2) rfl rfl (by decide) (q_move e3_4) ?_
      obtain ⟨a18, ha19, h⟩ := h
      refine GoOps.q (v := .pointer (some a18)) rfl rfl (by decide) (q_idx slice50 ha19 rfl rfl) ?_
      refine GoOps.q (v := .pointer (some (a18.add 0))) rfl rfl (by decide) (q_fieldAddr foff52_0 rfl) ?_
      obtain ⟨x20, hx21, h⟩ := h
      refine GoOps.q (v := .int .i64 x20) rfl rfl (by decide) (q_load scalar3 rfl hx21) ?_
      refine GoOps.q (v := .bool (x20 == 2)) rfl rfl (by decide) (q_eql rfl rfl) ?_
      refine GoOps.q (v := .bool (x20 == 2)) rfl rfl (by decide) (q_move rfl) ?_
      refine join_ops 9 (fun ρ (s23 : Bool) => ρ 0 = .pointer p0 ∧ ρ 3 = Sl.v s1.1 ∧ ρ 4 = .int .i64 s1.2 ∧ ρ 32 = .bool s23) h ?_ ?_ <;> clear h
      · intro s23 H25 ρ h hE
        obtain ⟨e26_0, e26_3, e26_4, e26_32⟩ := hE
        refine GoOps.nil ?_
        rcases bor s23 with hc27 | hc27
        · have h := h.1 hc27
          refine Go.condT (btT e26_32 hc27) ?_
          refine Go.seq ?_
          refine Go.region rfl ?_
          refine GoOps.q (v := .pointer p0) rfl rfl (by decide) (q_move e26_0) ?_
          obtain ⟨a28, ha29, h⟩ := h
          refine GoOps.q (v := .pointer (some a28)) rfl rfl (by decide) (q_nilCheck (ptn rfl ha29)) ?_
          refine GoOps.q (v := .pointer (some (a28.add 3))) rfl rfl (by decide) (q_fieldAddr foff81_1 rfl) ?_
          obtain ⟨x30, hx31, h⟩ := h
          refine GoOps.q (v := Sl.v x30) rfl rfl (by decide) (q_load scalar50 rfl hx31) ?_
          refine GoOps.q (v := .int .i64 s1.2) rfl rfl (by decide) (q_move e26_4) ?_
          obtain ⟨a32, ha33, h⟩ := h
          refine GoOps.q (v := .pointer (some a32)) rfl rfl (by decide) (q_idx slice50 ha33 rfl rfl) ?_
          refine GoOps.q (v := .pointer (some (a32.add 0))) rfl rfl (by decide) (q_fieldAddr foff52_0 rfl) ?_
          obtain ⟨q35b, q35o, q35c, q35e, hq35a, hq35b, hq35l, hq35v, h⟩ := h
          refine op_none rfl rfl (do_store (vs := [.int .i64 0]) size3 (pta rfl hq35a) rfl rfl rfl hq35v hq35b hq35l ?_) 
          refine GoOps.nil ?_
          refine Go.region rfl ?_
          refine GoOps.q (v := Sl.v s1.1) rfl rfl (by decide) (q_move e26_3) ?_
          refine GoOps.q (v := .int .i64 s1.2) rfl rfl (by decide) (q_move e26_4) ?_
          refine op_dst rfl rfl (by decide) (do_bs (ps := [(0, .int .i64 s1.2)]) (zs := [.int .i64 0]) (cs := [.int .i64 s1.2]) slice23 zero3 rfl rfl (by decide) (by decide) rfl rfl fun r36 H37 hb38 => ?_) 
          have h := h r36 H37 hb38
          refine op_dst rfl rfl (by decide) (do_append (zs := [.int .i64 0]) slice23 bytes3 (by decide) zero3 rfl rfl (by decide) rfl rfl Try.underlying23 rfl h fun r39 H40 h => ?_) 
          refine GoOps.q (v := Sl.v r39) rfl rfl (by decide) (q_assign rfl) ?_
          refine GoOps.nil ?_
          refine Go.inBlock ?_
          exact hj11 _ _ _ h ⟨e26_0, rfl, e26_4⟩
        · have h := h.2 hc27
          refine Go.condF (btF e26_32 hc27) ?_
          refine Go.skip ?_
          refine Go.inBlock ?_
          exact hj11 _ _ _ h ⟨e26_0, e26_3, e26_4⟩
      · intro j24 hj24 h
        rcases bor (x20 == 2) with hc22 | hc22
        · have h := h.1 hc22
          refine GoOps.q (v := .pointer p0) (want_yes rfl rfl rfl hc22) rfl (by decide) (q_move e3_0) ?_
          obtain ⟨a41, ha42, h⟩ := h
          refine GoOps.q (v := .pointer (some a41)) (want_yes rfl rfl rfl hc22) rfl (by decide) (q_nilCheck (ptn rfl ha42)) ?_
          refine GoOps.q (v := .pointer (some (a41.add 4))) (want_yes rfl rfl rfl hc22) rfl (by decide) (q_fieldAddr foff81_2 rfl) ?_
          obtain ⟨x43, hx44, h⟩ := h
          refine GoOps.q (v := Sl.v x43) (want_yes rfl rfl rfl hc22) rfl (by decide) (q_load scalar23 rfl hx44) ?_
          refine GoOps.q (v := .int .i64 s1.2) (want_yes rfl rfl rfl hc22) rfl (by decide) (q_move e3_4) ?_
          obtain ⟨a45, ha46, h⟩ := h
          refine GoOps.q (v := .pointer (some a45)) (want_yes rfl rfl rfl hc22) rfl (by decide) (q_idx slice23 ha46 rfl rfl) ?_
          obtain ⟨x47, hx48, h⟩ := h
          refine GoOps.q (v := .int .i64 x47) (want_yes rfl rfl rfl hc22) rfl (by decide) (q_load scalar3 rfl hx48) ?_
          refine GoOps.q (v := .bool (x47 == 0)) (want_yes rfl rfl rfl hc22) rfl (by decide) (q_eql rfl rfl) ?_
          refine GoOps.q (v := .bool (x47 == 0)) rfl rfl (by decide) (q_pickT (btT rfl hc22) rfl) ?_
          exact hj24 (x47 == 0) _ _ h (by exact ⟨e3_0, e3_3, e3_4, rfl⟩)
        · have h := h.2 hc22
          refine no_dst (want_no rfl rfl rfl hc22) rfl (by decide) ?_
          refine no_dst (want_no rfl rfl rfl hc22) rfl (by decide) ?_
          refine no_dst (want_no rfl rfl rfl hc22) rfl (by decide) ?_
          refine no_dst (want_no rfl rfl rfl hc22) rfl (by decide) ?_
          refine no_dst (want_no rfl rfl rfl hc22) rfl (by decide) ?_
          refine no_dst (want_no rfl rfl rfl hc22) rfl (by decide) ?_
          refine no_dst (want_no rfl rfl rfl hc22) rfl (by decide) ?_
          refine no_dst (want_no rfl rfl rfl hc22) rfl (by decide) ?_
          refine GoOps.q (v := .bool false) rfl rfl (by decide) (q_pickF (btF rfl hc22) rfl) ?_
          exact hj24 false _ _ h (by exact ⟨e3_0, e3_3, e3_4, rfl⟩)
  · have h := h.2 hc9
    refine Go.condF (btF rfl hc9) ?_
    refine Go.exit rfl ?_
    refine Go.seq ?_
    refine Go.region rfl ?_
    refine GoOps.q (v := Sl.v s1.1) rfl rfl (by decide) (q_move e3_3) ?_
    refine GoOps.q (v := Sl.v s1.1) rfl rfl (by decide) (q_assign rfl) ?_
    refine GoOps.nil ?_
    exact Go.ret ⟨.inl rfl, _, _, DOk.nil, (resOk1 Try.results35 rfl), ⟨_, rfl, h⟩⟩

/-- keelson.keelsonlaw12.UsagePlays -/
def keelsonlaw12_UsagePlays (p0 : (Int × Int × Int)) (p1 : Sl) (p2 : Sl) (H : PH) (Q : Bool → PH → Prop) : Prop :=
  mNew H (row [.int .i64 p0.1, .int .i64 p0.2.1, .int .i64 p0.2.2] 22) fun a1 H2 =>
  mJoin (fun (s5 : Bool) (H7 : PH) =>
  mIf s5
  (keelsonlaw12_awake H7 fun y11 H10 =>
  Q y11 H10)
  (mLdR (fun (x : (Int × Int × Int)) => [.int .i64 x.1, .int .i64 x.2.1, .int .i64 x.2.2]) H7 a1 3 fun x12 =>
  keelsonalike_Config (x12.1, x12.2.1, x12.2.2) false H7 fun y15 H14 =>
  mNew H14 (row [.int .i64 0, .int .i64 0, .int .i64 0] 26) fun a16 H17 =>
  mSt H17 a16 ([.int .i64 y15.1, .int .i64 y15.2.1, .int .i64 y15.2.2]) fun H19 =>
  mLdR (fun (x : (Int × Int × Int)) => [.int .i64 x.1, .int .i64 x.2.1, .int .i64 x.2.2]) H19 a16 3 fun x21 =>
  geom_New (x21.1, x21.2.1, x21.2.2) H19 fun y24 y25 H23 =>
  mJoin (fun (s27 : Bool) (H29 : PH) =>
  mIf s27
  (Q false H29)
  (usage_New y24 p1 H29 fun y33 H32 =>
  mLdR (fun (x : (Int × Int × Int)) => [.int .i64 x.1, .int .i64 x.2.1, .int .i64 x.2.2]) H32 a16 3 fun x34 =>
  keelsonref11_NewTable (x34.1, x34.2.1, x34.2.2) p1 H32 fun y37 H36 =>
  mIf (Option.isNone y37)
  (mJoin (fun (s40 : Bool) (H42 : PH) =>
  Q s40 H42)
  fun j41 =>
  mIf (Option.isNone y33)
  (keelsonlaw12_awake H36 fun y45 H44 =>
  j41 y45 H44)
  (j41 false H36))
  (mJoin (fun (s47 : Bool) (H49 : PH) =>
  mIf s47
  (Q false H49)
  (mLoop (fun (s52 : Int) (H55 : PH) (again53 : Int → PH → Prop) =>
  mIf (decide (s52 < (p2.len : Int)))
  (mIdx p2 3 s52 fun a57 =>
  mLdR (fun (x : (Int × Int × Int)) => [.int .i64 x.1, .int .i64 x.2.1, .int .i64 x.2.2]) H55 a57 3 fun x59 =>
  mNew H55 (row [.int .i64 0, .int .i64 0, .int .i64 0] 62) fun a61 H62 =>
  mSt H62 a61 ([.int .i64 x59.1, .int .i64 x59.2.1, .int .i64 x59.2.2]) fun H64 =>
  mLd (.int .i64) H64 (a61.add 0) fun x66 =>
  mJoin (fun (s68 : Unit) (H70 : PH) =>
  keelsonlaw12_same y33 y37 H70 fun y73 H72 =>
  mIf (!y73)
  (Q false H72)
  (again53 (IntKind.wrap .i64 (s52 + 1)) H72))
  fun j69 =>
  mIf (x66 == 1)
  (mLd (.int .i64) H64 (a61.add 1) fun x76 =>
  mLd (.int .i64) H64 (a61.add 2) fun x78 =>
  mLd (.int .i64) H64 (a61.add 1) fun x80 =>
  mLd (.int .i64) H64 (a61.add 2) fun x82 =>
  usage_Table_Add y33 x76 x78 H64 fun y85 H84 =>
  mSame H84 (a61.add 2) (.int .i64 x82) <|
  mSame H84 (a61.add 1) (.int .i64 x80) <|
  keelsonref11_Table_Add y37 x80 x82 H84 fun y89 H88 =>
  mIf (y85 != y89)
  (Q false H88)
  (j69 () H88))
  (mIf (x66 == 2)
  (mLd (.int .i64) H64 (a61.add 1) fun x92 =>
  mLd (.int .i64) H64 (a61.add 2) fun x94 =>
  usage_Table_Touch y33 x92 x94 H64 fun H96 =>
  mLd (.int .i64) H96 (a61.add 1) fun x97 =>
  mLd (.int .i64) H96 (a61.add 2) fun x99 =>
  keelsonref11_Table_Touch y37 x97 x99 H96 fun H101 =>
  j69 () H101)
  (mIf (x66 == 3)
  (mLd (.int .i64) H64 (a61.add 2) fun x103 =>
  usage_Table_Take y33 ((iand .i64 x103 1) == 1) H64 fun y106 y107 H105 =>
  mLd (.int .i64) H105 (a61.add 2) fun x108 =>
  keelsonref11_Table_Next y37 ((iand .i64 x108 1) == 1) H105 fun y111 H110 =>
  keelsonref11_Table_Grab y37 y111 H110 fun y113 H112 =>
  mJoin (fun (s115 : Bool) (H117 : PH) =>
  mJoin (fun (s120 : Bool) (H122 : PH) =>
  mIf s120
  (Q false H122)
  (j69 () H122))
  fun j121 =>
  mIf s115
  (j121 true H117)
  (mJoin (fun (s126 : Bool) (H128 : PH) =>
  j121 s126 H128)
  fun j127 =>
  mIf (!y107)
  (j127 (y106 != 0) H117)
  (j127 false H117)))
  fun j116 =>
  mIf (y107 != (decide (0 ≤ y111)))
  (j116 true H112)
  (mJoin (fun (s131 : Bool) (H133 : PH) =>
  j116 s131 H133)
  fun j132 =>
  mIf y107
  (j132 (y106 != y111) H112)
  (j132 false H112)))
  (mIf (x66 == 4)
  (mLd (.int .i64) H64 (a61.add 1) fun x136 =>
  mLd (.int .i64) H64 (a61.add 1) fun x138 =>
  usage_Table_Grab y33 x136 H64 fun y141 H140 =>
  mSame H140 (a61.add 1) (.int .i64 x138) <|
  keelsonref11_Table_Grab y37 x138 H140 fun y144 H143 =>
  mIf (y141 != y144)
  (Q false H143)
  (j69 () H143))
  (mIf (x66 == 5)
  (mLd (.int .i64) H64 (a61.add 1) fun x147 =>
  usage_Table_Seal y33 x147 H64 fun H149 =>
  mLd (.int .i64) H149 (a61.add 1) fun x150 =>
  keelsonref11_Table_Seal y37 x150 H149 fun H152 =>
  j69 () H152)
  (mIf (x66 == 6)
  (usage_Table_Release y33 H64 fun y155 H154 =>
  keelsonref11_Table_Release y37 H154 fun y157 H156 =>
  keelsonalike_Ints y155 y157 H156 fun y159 H158 =>
  mIf (!y159)
  (Q false H158)
  (j69 () H158))
  (j69 () H64)))))))
  (keelsonlaw12_awake H55 fun y162 H161 =>
  Q y162 H161))
  0 H49))
  fun j48 =>
  mIf (Option.isNone y33)
  (j48 true H36)
  (keelsonlaw12_same y33 y37 H36 fun y164 H163 =>
  j48 (!y164) H163))))
  fun j28 =>
  mIf (y25 != 0)
  (j28 true H23)
  (j28 (Option.isNone y24) H23)))
  fun j6 =>
  mIf (decide (60 < (p1.len : Int)))
  (j6 true H2)
  (j6 (decide (60 < (p2.len : Int))) H2)

set_option maxRecDepth 20000 in
set_option maxHeartbeats 1000000 in
theorem keelsonlaw12_UsagePlays_s (p0 : (Int × Int × Int)) (p1 : Sl) (p2 : Sl) (H : PH) (Q : Bool → PH → Prop) (h : keelsonlaw12_UsagePlays p0 p1 p2 H Q) :
    CallsH Try.prog 6 #[.agg ([.int .i64 p0.1, .int .i64 p0.2.1, .int .i64 p0.2.2] : List Value).toArray, Sl.v p1, Sl.v p2] H (fun v H' => ∃ (r0 : Bool), v = .bool r0 ∧ Q r0 H') := by
  unfold keelsonlaw12_UsagePlays at h
  refine callsH_of_go Try.func6 rfl Try.ntmps6 (Nat.le_of_ble_eq_true rfl) ?_
  refine Go.seq ?_
  refine Go.region rfl ?_
  refine op_dst rfl rfl (by decide) (do_newBox (cs := [.int .i64 p0.1, .int .i64 p0.2.1, .int .i64 p0.2.2]) rfl rfl fun a1 H2 hb3 => ?_) 
  have h := h a1 H2 hb3
  refine GoOps.q (v := .bool false) rfl rfl (by decide) (q_assign rfl) ?_
  refine GoOps.nil ?_
  refine Go.seq ?_
  refine Go.seq ?_
  refine Go.region rfl ?_
  refine GoOps.q (v := Sl.v p1) rfl rfl (by decide) (q_move rfl) ?_
  refine GoOps.q (v := .int .i64 (p1.len : Int)) rfl rfl (by decide) (q_len Try.underlying50 rfl (ls1 rfl)) ?_
  refine GoOps.q (v := .bool (decide (60 < (p1.len : Int)))) rfl rfl (by decide) (q_gtr rfl rfl) ?_
  refine GoOps.q (v := .bool (decide (60 < (p1.len : Int)))) rfl rfl (by decide) (q_move rfl) ?_
  refine join_ops 4 (fun ρ (s5 : Bool) => ρ 1 = Sl.v p1 ∧ ρ 2 = Sl.v p2 ∧ ρ 3 = .pointer (some a1) ∧ ρ 24 = .bool s5) h ?_ ?_ <;> clear h
  · intro s5 H7 ρ h hE
    obtain ⟨e8_1, e8_2, e8_3, e8_24⟩ := hE
    refine GoOps.nil ?_
    rcases bor s5 with hc9 | hc9
    · have h := h.1 hc9
      refine Go.condT (btT e8_24 hc9) ?_
      refine Go.seq ?_
      refine Go.region rfl ?_
      refine call_dst rfl (by decide) body7 (keelsonlaw12_awake_s _ _ h) rfl ?_
      rintro _ H10 ⟨y11, rfl, h⟩
      refine GoOps.q (v := .bool y11) rfl rfl (by decide) (q_assign rfl) ?_
      refine GoOps.nil ?_
      exact Go.ret ⟨.inl rfl, _, _, DOk.nil, (resOk1 Try.results6 rfl), ⟨_, rfl, h⟩⟩
    · have h := h.2 hc9
      refine Go.condF (btF e8_24 hc9) ?_
      refine Go.skip ?_
      refine Go.seq ?_
      refine Go.region rfl ?_
      obtain ⟨x12, hx13, h⟩ := h
      refine GoOps.q (v := .agg ([.int .i64 x12.1, .int .i64 x12.2.1, .int .i64 x12.2.2] : List Value).toArray) rfl rfl (by decide) (q_loadA aggr22 e8_3 hx13) ?_
      refine call_dst rfl (by decide) body8 (keelsonalike_Config_s _ _ _ _ h) rfl ?_
      rintro _ H14 ⟨y15, rfl, h⟩
      refine op_dst rfl rfl (by decide) (do_new zero26 rfl fun a16 H17 hb18 => ?_) 
      have h := h a16 H17 hb18
      obtain ⟨q20b, q20o, q20c, q20e, hq20a, hq20b, hq20l, hq20v, h⟩ := h
      refine op_none rfl rfl (do_store (vs := [.int .i64 y15.1, .int .i64 y15.2.1, .int .i64 y15.2.2]) size26 (pta rfl hq20a) rfl rfl rfl hq20v hq20b hq20l ?_) 
      refine GoOps.nil ?_
      refine Go.seq ?_
      refine Go.region rfl ?_
      obtain ⟨x21, hx22, h⟩ := h
      refine GoOps.q (v := .agg ([.int .i64 x21.1, .int .i64 x21.2.1, .int .i64 x21.2.2] : List Value).toArray) rfl rfl (by decide) (q_loadA aggr26 rfl hx22) ?_
      refine call_dst rfl (by decide) body9 (geom_New_s _ _ _ h) rfl ?_
      rintro _ H23 ⟨y24, y25, rfl, h⟩
      refine GoOps.q (v := .tuple #[.pointer y24, .int .i64 y25]) rfl rfl (by decide) (q_move rfl) ?_
      refine GoOps.q (v := .pointer y24) rfl rfl (by decide) (q_extract rfl rfl) ?_
      refine GoOps.q (v := .int .i64 y25) rfl rfl (by decide) (q_extract rfl rfl) ?_
      refine GoOps.q (v := .pointer y24) rfl rfl (by decide) (q_assign rfl) ?_
      refine GoOps.q (v := .int .i64 y25) rfl rfl (by decide) (q_assign rfl) ?_
      refine GoOps.nil ?_
      refine Go.seq ?_
      refine Go.seq ?_
      refine Go.region rfl ?_
      refine GoOps.q (v := .int .i64 y25) rfl rfl (by decide) (q_move rfl) ?_
      refine GoOps.q (v := .bool (y25 != 0)) rfl rfl (by decide) (q_neq rfl rfl) ?_
      refine GoOps.q (v := .bool (y25 != 0)) rfl rfl (by decide) (q_move rfl) ?_
      refine join_ops 3 (fun ρ (s27 : Bool) => ρ 1 = Sl.v p1 ∧ ρ 2 = Sl.v p2 ∧ ρ 7 = .pointer (some a16) ∧ ρ 8 = .pointer y24 ∧ ρ 38 = .bool s27) h ?_ ?_ <;> clear h
      · intro s27 H29 ρ h hE
        obtain ⟨e30_1, e30_2, e30_7, e30_8, e30_38⟩ := hE
        refine GoOps.nil ?_
        rcases bor s27 with hc31 | hc31
        · have h := h.1 hc31
          refine Go.condT (btT e30_38 hc31) ?_
          refine Go.seq ?_
          refine Go.region rfl ?_
          refine GoOps.q (v := .bool false) rfl rfl (by decide) (q_assign rfl) ?_
          refine GoOps.nil ?_
          exact Go.ret ⟨.inl rfl, _, _, DOk.nil, (resOk1 Try.results6 rfl), ⟨_, rfl, h⟩⟩
        · have h := h.2 hc31
          refine Go.condF (btF e30_38 hc31) ?_
          refine Go.skip ?_
          refine Go.seq ?_
          refine Go.region rfl ?_
          refine GoOps.q (v := .pointer y24) rfl rfl (by decide) (q_move e30_8) ?_
          refine GoOps.q (v := Sl.v p1) rfl rfl (by decide) (q_move e30_1) ?_
          refine call_dst rfl (by decide) body10 (usage_New_s _ _ _ _ h) rfl ?_
          rintro _ H32 ⟨y33, rfl, h⟩
          refine GoOps.q (v := .pointer y33) rfl rfl (by decide) (q_assign rfl) ?_
          refine GoOps.nil ?_
          refine Go.seq ?_
          refine Go.region rfl ?_
          obtain ⟨x34, hx35, h⟩ := h
          refine GoOps.q (v := .agg ([.int .i64 x34.1, .int .i64 x34.2.1, .int .i64 x34.2.2] : List Value).toArray) rfl rfl (by decide) (q_loadA aggr26 e30_7 hx35) ?_
          refine GoOps.q (v := Sl.v p1) rfl rfl (by decide) (q_move e30_1) ?_
          refine call_dst rfl (by decide) body27 (keelsonref11_NewTable_s _ _ _ _ h) rfl ?_
          rintro _ H36 ⟨y37, rfl, h⟩
          refine GoOps.q (v := .pointer y37) rfl rfl (by decide) (q_assign rfl) ?_
          refine GoOps.nil ?_
          refine Go.seq ?_
          refine Go.seq ?_
          refine Go.region rfl ?_
          refine GoOps.q (v := .pointer y37) rfl rfl (by decide) (q_move rfl) ?_
          refine GoOps.q (v := .bool (Option.isNone y37)) rfl rfl (by decide) (q_eqlPn Try.underlying58 rfl rfl) ?_
          refine GoOps.nil ?_
          rcases bor (Option.isNone y37) with hc38 | hc38
          · have h := h.1 hc38
            refine Go.condT (btT rfl hc38) ?_
            refine Go.seq ?_
            refine Go.region rfl ?_
            refine GoOps.q (v := .pointer y33) rfl rfl (by decide) (q_move rfl) ?_
            refine GoOps.q (v := .bool (Option.isNone y33)) rfl rfl (by decide) (q_eqlPn Try.underlying32 rfl rfl) ?_
            refine GoOps.q (v := .bool (Option.isNone y33)) rfl rfl (by decide) (q_move rfl) ?_
            refine join_ops 2 (fun ρ (s40 : Bool) => ρ 51 = .bool s40) h ?_ ?_ <;> clear h
            · intro s40 H42 ρ h hE
              have e43_51 := hE
              refine GoOps.q (v := .bool s40) rfl rfl (by decide) (q_assign e43_51) ?_
              refine GoOps.nil ?_
              exact Go.ret ⟨.inl rfl, _, _, DOk.nil, (resOk1 Try.results6 rfl), ⟨_, rfl, h⟩⟩
            · intro j41 hj41 h
              rcases bor (Option.isNone y33) with hc39 | hc39
              · have h := h.1 hc39
                refine call_dst (want_yes rfl rfl rfl hc39) (by decide) body7 (keelsonlaw12_awake_s _ _ h) rfl ?_
                rintro _ H44 ⟨y45, rfl, h⟩
                refine GoOps.q (v := .bool y45) rfl rfl (by decide) (q_pickT (btT rfl hc39) rfl) ?_
                exact hj41 y45 _ _ h (by exact rfl)
              · have h := h.2 hc39
                refine no_dst (want_no rfl rfl rfl hc39) rfl (by decide) ?_
                refine GoOps.q (v := .bool false) rfl rfl (by decide) (q_pickF (btF rfl hc39) rfl) ?_
                exact hj41 false _ _ h (by exact rfl)
          · have h := h.2 hc38
            refine Go.condF (btF rfl hc38) ?_
            refine Go.skip ?_
            refine Go.seq ?_
            refine Go.seq ?_
            refine Go.region rfl ?_
            refine GoOps.q (v := .pointer y33) rfl rfl (by decide) (q_move rfl) ?_
            refine GoOps.q (v := .bool (Option.isNone y33)) rfl rfl (by decide) (q_eqlPn Try.underlying32 rfl rfl) ?_
            refine GoOps.q (v := .bool (Option.isNone y33)) rfl rfl (by decide) (q_move rfl) ?_
            refine join_ops 5 (fun ρ (s47 : Bool) => ρ 2 = Sl.v p2 ∧ ρ 10 = .pointer y33 ∧ ρ 11 = .pointer y37 ∧ ρ 59 = .bool s47) h ?_ ?_ <;> clear h
            · intro s47 H49 ρ h hE
              obtain ⟨e50_2, e50_10, e50_11, e50_59⟩ := hE
              refine GoOps.nil ?_
              rcases bor s47 with hc51 | hc51
              · have h := h.1 hc51
                refine Go.condT (btT e50_59 hc51) ?_
                refine Go.seq ?_
                refine Go.region rfl ?_
                refine GoOps.q (v := .bool false) rfl rfl (by decide) (q_assign rfl) ?_
                refine GoOps.nil ?_
                exact Go.ret ⟨.inl rfl, _, _, DOk.nil, (resOk1 Try.results6 rfl), ⟨_, rfl, h⟩⟩
              · have h := h.2 hc51
                refine Go.condF (btF e50_59 hc51) ?_
                refine Go.skip ?_
                refine Go.seq ?_
                refine Go.seq ?_
                refine Go.region rfl ?_
                refine GoOps.q (v := .int .i64 0) rfl rfl (by decide) (q_assign rfl) ?_
                refine GoOps.nil ?_
                refine Go.block ?_
                refine loop_go (fun ρ (s52 : Int) => ρ 2 = Sl.v p2 ∧ ρ 10 = .pointer y33 ∧ ρ 11 = .pointer y37 ∧ ρ 12 = .int .i64 s52) h ⟨e50_2, e50_10, e50_11, rfl⟩ ?_
                clear h
                intro ρ s52 H55 again53 hE h hagain53
                obtain ⟨e54_2, e54_10, e54_11, e54_12⟩ := hE
                refine Go.seq ?_
                refine Go.seq ?_
                refine Go.region rfl ?_
                refine GoOps.q (v := .int .i64 s52) rfl rfl (by decide) (q_move e54_12) ?_
                refine GoOps.q (v := Sl.v p2) rfl rfl (by decide) (q_move e54_2) ?_
                refine GoOps.q (v := .int .i64 (p2.len : Int)) rfl rfl (by decide) (q_len Try.underlying57 rfl (ls1 rfl)) ?_
                refine GoOps.q (v := .bool (decide (s52 < (p2.len : Int)))) rfl rfl (by decide) (q_lss rfl rfl) ?_
                refine GoOps.nil ?_
                rcases bor (decide (s52 < (p2.len : Int))) with hc56 | hc56
                · have h := h.1 hc56
                  refine Go.condT (btT rfl hc56) ?_
                  refine Go.skip ?_
                  refine Go.seq ?_
                  refine Go.block ?_
                  refine Go.seq ?_
                  refine Go.region rfl ?_
                  refine GoOps.q (v := Sl.v p2) rfl rfl (by decide) (q_move e54_2) ?_
                  refine GoOps.q (v := .int .i64 s52) rfl rfl (by decide) (q_move e54_12) ?_
                  obtain ⟨a57, ha58, h⟩ := h
                  refine GoOps.q (v := .pointer (some a57)) rfl rfl (by decide) (q_idx slice57 ha58 rfl rfl) ?_
                  obtain ⟨x59, hx60, h⟩ := h
                  refine GoOps.q (v := .agg ([.int .i64 x59.1, .int .i64 x59.2.1, .int .i64 x59.2.2] : List Value).toArray) rfl rfl (by decide) (q_loadA aggr62 rfl hx60) ?_
                  refine op_dst rfl rfl (by decide) (do_new zero62 rfl fun a61 H62 hb63 => ?_) 
                  have h := h a61 H62 hb63
                  obtain ⟨q65b, q65o, q65c, q65e, hq65a, hq65b, hq65l, hq65v, h⟩ := h
                  refine op_none rfl rfl (do_store (vs := [.int .i64 x59.1, .int .i64 x59.2.1, .int .i64 x59.2.2]) size62 (pta rfl hq65a) rfl rfl rfl hq65v hq65b hq65l ?_) 
                  refine GoOps.nil ?_
                  refine Go.seq ?_
                  refine Go.seq ?_
                  refine Go.region rfl ?_
                  refine GoOps.q (v := .pointer (some (a61.add 0))) rfl rfl (by decide) (q_fieldAddr foff62_0 rfl) ?_
                  obtain ⟨x66, hx67, h⟩ := h
                  refine GoOps.q (v := .int .i64 x66) rfl rfl (by decide) (q_load scalar3 rfl hx67) ?_
                  refine GoOps.nil ?_
                  refine join_go 1 (fun ρ (s68 : Unit) => ρ 2 = Sl.v p2 ∧ ρ 10 = .pointer y33 ∧ ρ 11 = .pointer y37 ∧ ρ 12 = .int .i64 s52) h ?_ ?_ <;> clear h
                  · intro s68 H70 ρ h hE
                    obtain ⟨e71_2, e71_10, e71_11, e71_12⟩ := hE
                    refine Go.seq ?_
                    refine Go.region rfl ?_
                    refine GoOps.q (v := .pointer y33) rfl rfl (by decide) (q_move e71_10) ?_
                    refine GoOps.q (v := .pointer y37) rfl rfl (by decide) (q_move e71_11) ?_
                    refine call_dst rfl (by decide) body28 (keelsonlaw12_same_s _ _ _ _ h) rfl ?_
                    rintro _ H72 ⟨y73, rfl, h⟩
                    refine GoOps.q (v := .bool (!y73)) rfl rfl (by decide) (q_not rfl) ?_
                    refine GoOps.nil ?_
                    rcases bor (!y73) with hc74 | hc74
                    · have h := h.1 hc74
                      refine Go.condT (btT rfl hc74) ?_
                      refine Go.seq ?_
                      refine Go.region rfl ?_
                      refine GoOps.q (v := .bool false) rfl rfl (by decide) (q_assign rfl) ?_
                      refine GoOps.nil ?_
                      exact Go.ret ⟨.inl rfl, _, _, DOk.nil, (resOk1 Try.results6 rfl), ⟨_, rfl, h⟩⟩
                    · have h := h.2 hc74
                      refine Go.condF (btF rfl hc74) ?_
                      refine Go.skip ?_
                      refine Go.inBlock ?_
                      refine Go.region rfl ?_
                      refine GoOps.q (v := .int .i64 s52) rfl rfl (by decide) (q_move e71_12) ?_
                      refine GoOps.q (v := .int .i64 (IntKind.wrap .i64 (s52 + 1))) rfl rfl (by decide) (q_add rfl rfl) ?_
                      refine GoOps.q (v := .int .i64 (IntKind.wrap .i64 (s52 + 1))) rfl rfl (by decide) (q_assign rfl) ?_
                      refine GoOps.nil ?_
                      exact hagain53 _ _ _ h ⟨e71_2, e71_10, e71_11, rfl⟩
                  · intro j69 hj69 h
                    refine Go.block ?_
                    refine Go.seq ?_
                    refine Go.region rfl ?_
                    refine GoOps.q (v := .bool (x66 == 1)) rfl rfl (by decide) (q_eql rfl rfl) ?_
                    refine GoOps.q (v := .bool (x66 == 1)) rfl rfl (by decide) (q_assign rfl) ?_
                    refine GoOps.nil ?_
                    rcases bor (x66 == 1) with hc75 | hc75
                    · have h := h.1 hc75
                      refine Go.condT (btT rfl hc75) ?_
                      refine Go.seq ?_
                      refine Go.draw mixed ?_
                      refine plan_pure (i := 0) (d := 74) (S2 := 1) (v := .pointer y33) rfl (by decide +kernel) rfl (q_move e54_10) ?_
                      refine plan_pure (i := 1) (d := 75) (S2 := 3) (v := .pointer (some (a61.add 1))) rfl (by decide +kernel) rfl (q_fieldAddr foff62_1 rfl) ?_
                      obtain ⟨x76, hx77, h⟩ := h
                      refine plan_load (i := 2) (d := 76) (S2 := 7) (v := .int .i64 x76) rfl (by decide +kernel) rfl (q_load scalar3 rfl hx77) ?_
                      refine plan_pure (i := 3) (d := 77) (S2 := 15) (v := .pointer (some (a61.add 2))) rfl (by decide +kernel) rfl (q_fieldAddr foff62_2 rfl) ?_
                      obtain ⟨x78, hx79, h⟩ := h
                      refine plan_load (i := 4) (d := 78) (S2 := 31) (v := .int .i64 x78) rfl (by decide +kernel) rfl (q_load scalar3 rfl hx79) ?_
                      refine plan_pure (i := 6) (d := 80) (S2 := 95) (v := .pointer y37) rfl (by decide +kernel) rfl (q_move e54_11) ?_
                      refine plan_pure (i := 7) (d := 81) (S2 := 223) (v := .pointer (some (a61.add 1))) rfl (by decide +kernel) rfl (q_fieldAddr foff62_1 rfl) ?_
                      obtain ⟨x80, hx81, h⟩ := h
                      refine plan_load (i := 8) (d := 82) (S2 := 479) (v := .int .i64 x80) rfl (by decide +kernel) rfl (q_load scalar3 rfl hx81) ?_
                      refine plan_pure (i := 9) (d := 83) (S2 := 991) (v := .pointer (some (a61.add 2))) rfl (by decide +kernel) rfl (q_fieldAddr foff62_2 rfl) ?_
                      obtain ⟨x82, hx83, h⟩ := h
                      refine plan_load (i := 10) (d := 84) (S2 := 2015) (v := .int .i64 x82) rfl (by decide +kernel) rfl (q_load scalar3 rfl hx83) ?_
                      refine plan_one (j := 5) (S2 := 2047) (by decide +kernel) rfl (by decide) rfl ?_
                      refine do_call2 body18 (usage_Table_Add_s _ _ _ _ _ h) rfl ?_
                      rintro _ H84 ⟨y85, rfl, h⟩
                      obtain ⟨hr86, h⟩ := h
                      obtain ⟨hr87, h⟩ := h
                      refine ⟨_, (.inr ⟨⟨_, _, rfl, rfl, q_load scalar3 rfl hr86⟩, _, rfl, .inr ⟨⟨_, _, rfl, rfl, q_load scalar3 rfl hr87⟩, _, rfl, .inl ⟨⟨[5], by decide +kernel, rfl⟩, .inl ⟨⟨[5], by decide +kernel, rfl⟩, rfl⟩⟩⟩⟩), ?_⟩
                      refine plan_one (j := 11) (S2 := 4095) (by decide +kernel) rfl (by decide) rfl ?_
                      refine do_call2 body29 (keelsonref11_Table_Add_s _ _ _ _ _ h) rfl ?_
                      rintro _ H88 ⟨y89, rfl, h⟩
                      refine ⟨_, (.inl ⟨⟨[11], by decide +kernel, rfl⟩, .inl ⟨⟨[11], by decide +kernel, rfl⟩, rfl⟩⟩), ?_⟩
                      refine plan_pure (i := 12) (d := 86) (S2 := 8191) (v := .bool (y85 != y89)) rfl (by decide +kernel) rfl (q_neqB Try.underlying4 rfl rfl) ?_
                      refine plan_done (by decide +kernel) ?_
                      rcases bor (y85 != y89) with hc90 | hc90
                      · have h := h.1 hc90
                        refine Go.condT (btT rfl hc90) ?_
                        refine Go.seq ?_
                        refine Go.region rfl ?_
                        refine GoOps.q (v := .bool false) rfl rfl (by decide) (q_assign rfl) ?_
                        refine GoOps.nil ?_
                        exact Go.ret ⟨.inl rfl, _, _, DOk.nil, (resOk1 Try.results6 rfl), ⟨_, rfl, h⟩⟩
                      · have h := h.2 hc90
                        refine Go.condF (btF rfl hc90) ?_
                        refine Go.skip ?_
                        refine Go.inBlock ?_
                        exact hj69 _ _ _ h ⟨e54_2, e54_10, e54_11, e54_12⟩
                    · have h := h.2 hc75
                      refine Go.condF (btF rfl hc75) ?_
                      refine Go.seq ?_
                      refine Go.region rfl ?_
                      refine GoOps.q (v := .bool (x66 == 2)) rfl rfl (by decide) (q_eql rfl rfl) ?_
                      refine GoOps.q (v := .bool (x66 == 2)) rfl rfl (by decide) (q_assign rfl) ?_
                      refine GoOps.nil ?_
                      rcases bor (x66 == 2) with hc91 | hc91
                      · have h := h.1 hc91
                        refine Go.condT (btT rfl hc91) ?_
                        refine Go.seq ?_
                        refine Go.region rfl ?_
                        refine GoOps.q (v := .pointer y33) rfl rfl (by decide) (q_move e54_10) ?_
                        refine GoOps.q (v := .pointer (some (a61.add 1))) rfl rfl (by decide) (q_fieldAddr foff62_1 rfl) ?_
                        obtain ⟨x92, hx93, h⟩ := h
                        refine GoOps.q (v := .int .i64 x92) rfl rfl (by decide) (q_load scalar3 rfl hx93) ?_
                        refine GoOps.q (v := .pointer (some (a61.add 2))) rfl rfl (by decide) (q_fieldAddr foff62_2 rfl) ?_
                        obtain ⟨x94, hx95, h⟩ := h
                        refine GoOps.q (v := .int .i64 x94) rfl rfl (by decide) (q_load scalar3 rfl hx95) ?_
                        refine call_dst rfl (by decide) body30 (usage_Table_Touch_s _ _ _ _ _ h) rfl ?_
                        rintro _ H96 ⟨rfl, h⟩
                        refine GoOps.nil ?_
                        refine Go.region rfl ?_
                        refine GoOps.q (v := .pointer y37) rfl rfl (by decide) (q_move e54_11) ?_
                        refine GoOps.q (v := .pointer (some (a61.add 1))) rfl rfl (by decide) (q_fieldAddr foff62_1 rfl) ?_
                        obtain ⟨x97, hx98, h⟩ := h
                        refine GoOps.q (v := .int .i64 x97) rfl rfl (by decide) (q_load scalar3 rfl hx98) ?_
                        refine GoOps.q (v := .pointer (some (a61.add 2))) rfl rfl (by decide) (q_fieldAddr foff62_2 rfl) ?_
                        obtain ⟨x99, hx100, h⟩ := h
                        refine GoOps.q (v := .int .i64 x99) rfl rfl (by decide) (q_load scalar3 rfl hx100) ?_
                        refine call_dst rfl (by decide) body31 (keelsonref11_Table_Touch_s _ _ _ _ _ h) rfl ?_
                        rintro _ H101 ⟨rfl, h⟩
                        refine GoOps.nil ?_
                        refine Go.inBlock ?_
                        exact hj69 _ _ _ h ⟨e54_2, e54_10, e54_11, e54_12⟩
                      · have h := h.2 hc91
                        refine Go.condF (btF rfl hc91) ?_
                        refine Go.seq ?_
                        refine Go.region rfl ?_
                        refine GoOps.q (v := .bool (x66 == 3)) rfl rfl (by decide) (q_eql rfl rfl) ?_
                        refine GoOps.q (v := .bool (x66 == 3)) rfl rfl (by decide) (q_assign rfl) ?_
                        refine GoOps.nil ?_
                        rcases bor (x66 == 3) with hc102 | hc102
                        · have h := h.1 hc102
                          refine Go.condT (btT rfl hc102) ?_
                          refine Go.seq ?_
                          refine Go.region rfl ?_
                          refine GoOps.q (v := .pointer y33) rfl rfl (by decide) (q_move e54_10) ?_
                          refine GoOps.q (v := .pointer (some (a61.add 2))) rfl rfl (by decide) (q_fieldAddr foff62_2 rfl) ?_
                          obtain ⟨x103, hx104, h⟩ := h
                          refine GoOps.q (v := .int .i64 x103) rfl rfl (by decide) (q_load scalar3 rfl hx104) ?_
                          refine GoOps.q (v := .int .i64 (iand .i64 x103 1)) rfl rfl (by decide) (q_and rfl rfl) ?_
                          refine GoOps.q (v := .bool ((iand .i64 x103 1) == 1)) rfl rfl (by decide) (q_eql rfl rfl) ?_
                          refine call_dst rfl (by decide) body13 (usage_Table_Take_s _ _ _ _ h) rfl ?_
                          rintro _ H105 ⟨y106, y107, rfl, h⟩
                          refine GoOps.q (v := .tuple #[.int .i64 y106, .bool y107]) rfl rfl (by decide) (q_move rfl) ?_
                          refine GoOps.q (v := .int .i64 y106) rfl rfl (by decide) (q_extract rfl rfl) ?_
                          refine GoOps.q (v := .bool y107) rfl rfl (by decide) (q_extract rfl rfl) ?_
                          refine GoOps.q (v := .int .i64 y106) rfl rfl (by decide) (q_assign rfl) ?_
                          refine GoOps.q (v := .bool y107) rfl rfl (by decide) (q_assign rfl) ?_
                          refine GoOps.nil ?_
                          refine Go.seq ?_
                          refine Go.region rfl ?_
                          refine GoOps.q (v := .pointer y37) rfl rfl (by decide) (q_move e54_11) ?_
                          refine GoOps.q (v := .pointer (some (a61.add 2))) rfl rfl (by decide) (q_fieldAddr foff62_2 rfl) ?_
                          obtain ⟨x108, hx109, h⟩ := h
                          refine GoOps.q (v := .int .i64 x108) rfl rfl (by decide) (q_load scalar3 rfl hx109) ?_
                          refine GoOps.q (v := .int .i64 (iand .i64 x108 1)) rfl rfl (by decide) (q_and rfl rfl) ?_
                          refine GoOps.q (v := .bool ((iand .i64 x108 1) == 1)) rfl rfl (by decide) (q_eql rfl rfl) ?_
                          refine call_dst rfl (by decide) body32 (keelsonref11_Table_Next_s _ _ _ _ h) rfl ?_
                          rintro _ H110 ⟨y111, rfl, h⟩
                          refine GoOps.q (v := .int .i64 y111) rfl rfl (by decide) (q_assign rfl) ?_
                          refine GoOps.nil ?_
                          refine Go.seq ?_
                          refine Go.region rfl ?_
                          refine GoOps.q (v := .pointer y37) rfl rfl (by decide) (q_move e54_11) ?_
                          refine GoOps.q (v := .int .i64 y111) rfl rfl (by decide) (q_move rfl) ?_
                          refine call_dst rfl (by decide) body33 (keelsonref11_Table_Grab_s _ _ _ _ h) rfl ?_
                          rintro _ H112 ⟨y113, rfl, h⟩
                          refine GoOps.nil ?_
                          refine Go.seq ?_
                          refine Go.region rfl ?_
                          refine GoOps.q (v := .bool y107) rfl rfl (by decide) (q_move rfl) ?_
                          refine GoOps.q (v := .int .i64 y111) rfl rfl (by decide) (q_move rfl) ?_
                          refine GoOps.q (v := .bool (decide (0 ≤ y111))) rfl rfl (by decide) (q_geq rfl rfl) ?_
                          refine GoOps.q (v := .bool (y107 != (decide (0 ≤ y111)))) rfl rfl (by decide) (q_neqB Try.underlying4 rfl rfl) ?_
                          refine GoOps.q (v := .bool (y107 != (decide (0 ≤ y111)))) rfl rfl (by decide) (q_move rfl) ?_
                          refine join_ops 7 (fun ρ (s115 : Bool) => ρ 2 = Sl.v p2 ∧ ρ 10 = .pointer y33 ∧ ρ 11 = .pointer y37 ∧ ρ 12 = .int .i64 s52 ∧ ρ 14 = .int .i64 y106 ∧ ρ 15 = .bool y107 ∧ ρ 132 = .bool s115) h ?_ ?_ <;> clear h
                          · intro s115 H117 ρ h hE
                            obtain ⟨e118_2, e118_10, e118_11, e118_12, e118_14, e118_15, e118_132⟩ := hE
                            refine GoOps.q (v := .bool s115) rfl rfl (by decide) (q_move e118_132) ?_
                            refine join_ops 7 (fun ρ (s120 : Bool) => ρ 2 = Sl.v p2 ∧ ρ 10 = .pointer y33 ∧ ρ 11 = .pointer y37 ∧ ρ 12 = .int .i64 s52 ∧ ρ 140 = .bool s120) h ?_ ?_ <;> clear h
                            · intro s120 H122 ρ h hE
                              obtain ⟨e123_2, e123_10, e123_11, e123_12, e123_140⟩ := hE
                              refine GoOps.nil ?_
                              rcases bor s120 with hc124 | hc124
                              · have h := h.1 hc124
                                refine Go.condT (btT e123_140 hc124) ?_
                                refine Go.seq ?_
                                refine Go.region rfl ?_
                                refine GoOps.q (v := .bool false) rfl rfl (by decide) (q_assign rfl) ?_
                                refine GoOps.nil ?_
                                exact Go.ret ⟨.inl rfl, _, _, DOk.nil, (resOk1 Try.results6 rfl), ⟨_, rfl, h⟩⟩
                              · have h := h.2 hc124
                                refine Go.condF (btF e123_140 hc124) ?_
                                refine Go.skip ?_
                                refine Go.inBlock ?_
                                exact hj69 _ _ _ h ⟨e123_2, e123_10, e123_11, e123_12⟩
                            · intro j121 hj121 h
                              rcases bor s115 with hc119 | hc119
                              · have h := h.1 hc119
                                refine no_dst (want_no rfl rfl rfl hc119) rfl (by decide) ?_
                                refine no_dst (want_no rfl rfl rfl hc119) rfl (by decide) ?_
                                refine no_dst (want_no rfl rfl rfl hc119) rfl (by decide) ?_
                                refine no_dst (want_undef rfl rfl rfl) rfl (by decide) ?_
                                refine no_dst (want_undef rfl rfl rfl) rfl (by decide) ?_
                                refine no_dst (want_no rfl rfl rfl hc119) rfl (by decide) ?_
                                refine GoOps.q (v := .bool true) rfl rfl (by decide) (q_pickT (btT rfl hc119) rfl) ?_
                                exact hj121 true _ _ h (by exact ⟨e118_2, e118_10, e118_11, e118_12, rfl⟩)
                              · have h := h.2 hc119
                                refine GoOps.q (v := .bool y107) (want_yes rfl rfl rfl hc119) rfl (by decide) (q_move e118_15) ?_
                                refine GoOps.q (v := .bool (!y107)) (want_yes rfl rfl rfl hc119) rfl (by decide) (q_not rfl) ?_
                                refine GoOps.q (v := .bool (!y107)) (want_yes rfl rfl rfl hc119) rfl (by decide) (q_move rfl) ?_
                                refine join_ops 3 (fun ρ (s126 : Bool) => ρ 2 = Sl.v p2 ∧ ρ 10 = .pointer y33 ∧ ρ 11 = .pointer y37 ∧ ρ 12 = .int .i64 s52 ∧ ρ 133 = .bool s115 ∧ ρ 139 = .bool s126) h ?_ ?_ <;> clear h
                                · intro s126 H128 ρ h hE
                                  obtain ⟨e129_2, e129_10, e129_11, e129_12, e129_133, e129_139⟩ := hE
                                  refine GoOps.q (v := .bool s126) rfl rfl (by decide) (q_pickF (btF e129_133 hc119) e129_139) ?_
                                  exact hj121 s126 _ _ h (by exact ⟨e129_2, e129_10, e129_11, e129_12, rfl⟩)
                                · intro j127 hj127 h
                                  rcases bor (!y107) with hc125 | hc125
                                  · have h := h.1 hc125
                                    refine GoOps.q (v := .int .i64 y106) (want_yes rfl rfl rfl hc125) rfl (by decide) (q_move e118_14) ?_
                                    refine GoOps.q (v := .bool (y106 != 0)) (want_yes rfl rfl rfl hc125) rfl (by decide) (q_neq rfl rfl) ?_
                                    refine GoOps.q (v := .bool (y106 != 0)) (want_yes rfl rfl rfl hc119) rfl (by decide) (q_pickT (btT rfl hc125) rfl) ?_
                                    exact hj127 (y106 != 0) _ _ h (by exact ⟨e118_2, e118_10, e118_11, e118_12, rfl, rfl⟩)
                                  · have h := h.2 hc125
                                    refine no_dst (want_no rfl rfl rfl hc125) rfl (by decide) ?_
                                    refine no_dst (want_no rfl rfl rfl hc125) rfl (by decide) ?_
                                    refine GoOps.q (v := .bool false) (want_yes rfl rfl rfl hc119) rfl (by decide) (q_pickF (btF rfl hc125) rfl) ?_
                                    exact hj127 false _ _ h (by exact ⟨e118_2, e118_10, e118_11, e118_12, rfl, rfl⟩)
                          · intro j116 hj116 h
                            rcases bor (y107 != (decide (0 ≤ y111))) with hc114 | hc114
                            · have h := h.1 hc114
                              refine no_dst (want_no rfl rfl rfl hc114) rfl (by decide) ?_
                              refine no_dst (want_no rfl rfl rfl hc114) rfl (by decide) ?_
                              refine no_dst (want_undef rfl rfl rfl) rfl (by decide) ?_
                              refine no_dst (want_undef rfl rfl rfl) rfl (by decide) ?_
                              refine no_dst (want_undef rfl rfl rfl) rfl (by decide) ?_
                              refine no_dst (want_no rfl rfl rfl hc114) rfl (by decide) ?_
                              refine GoOps.q (v := .bool true) rfl rfl (by decide) (q_pickT (btT rfl hc114) rfl) ?_
                              exact hj116 true _ _ h (by exact ⟨e54_2, e54_10, e54_11, e54_12, rfl, rfl, rfl⟩)
                            · have h := h.2 hc114
                              refine GoOps.q (v := .bool y107) (want_yes rfl rfl rfl hc114) rfl (by decide) (q_move rfl) ?_
                              refine GoOps.q (v := .bool y107) (want_yes rfl rfl rfl hc114) rfl (by decide) (q_move rfl) ?_
                              refine join_ops 4 (fun ρ (s131 : Bool) => ρ 2 = Sl.v p2 ∧ ρ 10 = .pointer y33 ∧ ρ 11 = .pointer y37 ∧ ρ 12 = .int .i64 s52 ∧ ρ 14 = .int .i64 y106 ∧ ρ 15 = .bool y107 ∧ ρ 125 = .bool (y107 != (decide (0 ≤ y111))) ∧ ρ 131 = .bool s131) h ?_ ?_ <;> clear h
                              · intro s131 H133 ρ h hE
                                obtain ⟨e134_2, e134_10, e134_11, e134_12, e134_14, e134_15, e134_125, e134_131⟩ := hE
                                refine GoOps.q (v := .bool s131) rfl rfl (by decide) (q_pickF (btF e134_125 hc114) e134_131) ?_
                                exact hj116 s131 _ _ h (by exact ⟨e134_2, e134_10, e134_11, e134_12, e134_14, e134_15, rfl⟩)
                              · intro j132 hj132 h
                                rcases bor y107 with hc130 | hc130
                                · have h := h.1 hc130
                                  refine GoOps.q (v := .int .i64 y106) (want_yes rfl rfl rfl hc130) rfl (by decide) (q_move rfl) ?_
                                  refine GoOps.q (v := .int .i64 y111) (want_yes rfl rfl rfl hc130) rfl (by decide) (q_move rfl) ?_
                                  refine GoOps.q (v := .bool (y106 != y111)) (want_yes rfl rfl rfl hc130) rfl (by decide) (q_neq rfl rfl) ?_
                                  refine GoOps.q (v := .bool (y106 != y111)) (want_yes rfl rfl rfl hc114) rfl (by decide) (q_pickT (btT rfl hc130) rfl) ?_
                                  exact hj132 (y106 != y111) _ _ h (by exact ⟨e54_2, e54_10, e54_11, e54_12, rfl, rfl, rfl, rfl⟩)
                                · have h := h.2 hc130
                                  refine no_dst (want_no rfl rfl rfl hc130) rfl (by decide) ?_
                                  refine no_dst (want_no rfl rfl rfl hc130) rfl (by decide) ?_
                                  refine no_dst (want_no rfl rfl rfl hc130) rfl (by decide) ?_
                                  refine GoOps.q (v := .bool false) (want_yes rfl rfl rfl hc114) rfl (by decide) (q_pickF (btF rfl hc130) rfl) ?_
                                  exact hj132 false _ _ h (by exact ⟨e54_2, e54_10, e54_11, e54_12, rfl, rfl, rfl, rfl⟩)
                        · have h := h.2 hc102
                          refine Go.condF (btF rfl hc102) ?_
                          refine Go.seq ?_
                          refine Go.region rfl ?_
                          refine GoOps.q (v := .bool (x66 == 4)) rfl rfl (by decide) (q_eql rfl rfl) ?_
                          refine GoOps.q (v := .bool (x66 == 4)) rfl rfl (by decide) (q_assign rfl) ?_
                          refine GoOps.nil ?_
                          rcases bor (x66 == 4) with hc135 | hc135
                          · have h := h.1 hc135
                            refine Go.condT (btT rfl hc135) ?_
                            refine Go.seq ?_
                            refine Go.draw mixed ?_
                            refine plan_pure (i := 0) (d := 143) (S2 := 1) (v := .pointer y33) rfl (by decide +kernel) rfl (q_move e54_10) ?_
                            refine plan_pure (i := 1) (d := 144) (S2 := 3) (v := .pointer (some (a61.add 1))) rfl (by decide +kernel) rfl (q_fieldAddr foff62_1 rfl) ?_
                            obtain ⟨x136, hx137, h⟩ := h
                            refine plan_load (i := 2) (d := 145) (S2 := 7) (v := .int .i64 x136) rfl (by decide +kernel) rfl (q_load scalar3 rfl hx137) ?_
                            refine plan_pure (i := 4) (d := 147) (S2 := 23) (v := .pointer y37) rfl (by decide +kernel) rfl (q_move e54_11) ?_
                            refine plan_pure (i := 5) (d := 148) (S2 := 55) (v := .pointer (some (a61.add 1))) rfl (by decide +kernel) rfl (q_fieldAddr foff62_1 rfl) ?_
                            obtain ⟨x138, hx139, h⟩ := h
                            refine plan_load (i := 6) (d := 149) (S2 := 119) (v := .int .i64 x138) rfl (by decide +kernel) rfl (q_load scalar3 rfl hx139) ?_
                            refine plan_one (j := 3) (S2 := 127) (by decide +kernel) rfl (by decide) rfl ?_
                            refine do_call2 body12 (usage_Table_Grab_s _ _ _ _ h) rfl ?_
                            rintro _ H140 ⟨y141, rfl, h⟩
                            obtain ⟨hr142, h⟩ := h
                            refine ⟨_, (.inr ⟨⟨_, _, rfl, rfl, q_load scalar3 rfl hr142⟩, _, rfl, .inl ⟨⟨[3], by decide +kernel, rfl⟩, rfl⟩⟩), ?_⟩
                            refine plan_one (j := 7) (S2 := 255) (by decide +kernel) rfl (by decide) rfl ?_
                            refine do_call2 body33 (keelsonref11_Table_Grab_s _ _ _ _ h) rfl ?_
                            rintro _ H143 ⟨y144, rfl, h⟩
                            refine ⟨_, (.inl ⟨⟨[7], by decide +kernel, rfl⟩, rfl⟩), ?_⟩
                            refine plan_pure (i := 8) (d := 151) (S2 := 511) (v := .bool (y141 != y144)) rfl (by decide +kernel) rfl (q_neqB Try.underlying4 rfl rfl) ?_
                            refine plan_done (by decide +kernel) ?_
                            rcases bor (y141 != y144) with hc145 | hc145
                            · have h := h.1 hc145
                              refine Go.condT (btT rfl hc145) ?_
                              refine Go.seq ?_
                              refine Go.region rfl ?_
                              refine GoOps.q (v := .bool false) rfl rfl (by decide) (q_assign rfl) ?_
                              refine GoOps.nil ?_
                              exact Go.ret ⟨.inl rfl, _, _, DOk.nil, (resOk1 Try.results6 rfl), ⟨_, rfl, h⟩⟩
                            · have h := h.2 hc145
                              refine Go.condF (btF rfl hc145) ?_
                              refine Go.skip ?_
                              refine Go.inBlock ?_
                              exact hj69 _ _ _ h ⟨e54_2, e54_10, e54_11, e54_12⟩
                          · have h := h.2 hc135
                            refine Go.condF (btF rfl hc135) ?_
                            refine Go.seq ?_
                            refine Go.region rfl ?_
                            refine GoOps.q (v := .bool (x66 == 5)) rfl rfl (by decide) (q_eql rfl rfl) ?_
                            refine GoOps.q (v := .bool (x66 == 5)) rfl rfl (by decide) (q_assign rfl) ?_
                            refine GoOps.nil ?_
                            rcases bor (x66 == 5) with hc146 | hc146
                            · have h := h.1 hc146
                              refine Go.condT (btT rfl hc146) ?_
                              refine Go.seq ?_
                              refine Go.region rfl ?_
                              refine GoOps.q (v := .pointer y33) rfl rfl (by decide) (q_move e54_10) ?_
                              refine GoOps.q (v := .pointer (some (a61.add 1))) rfl rfl (by decide) (q_fieldAddr foff62_1 rfl) ?_
                              obtain ⟨x147, hx148, h⟩ := h
                              refine GoOps.q (v := .int .i64 x147) rfl rfl (by decide) (q_load scalar3 rfl hx148) ?_
                              refine call_dst rfl (by decide) body17 (usage_Table_Seal_s _ _ _ _ h) rfl ?_
                              rintro _ H149 ⟨rfl, h⟩
                              refine GoOps.nil ?_
                              refine Go.region rfl ?_
                              refine GoOps.q (v := .pointer y37) rfl rfl (by decide) (q_move e54_11) ?_
                              refine GoOps.q (v := .pointer (some (a61.add 1))) rfl rfl (by decide) (q_fieldAddr foff62_1 rfl) ?_
                              obtain ⟨x150, hx151, h⟩ := h
                              refine GoOps.q (v := .int .i64 x150) rfl rfl (by decide) (q_load scalar3 rfl hx151) ?_
                              refine call_dst rfl (by decide) body34 (keelsonref11_Table_Seal_s _ _ _ _ h) rfl ?_
                              rintro _ H152 ⟨rfl, h⟩
                              refine GoOps.nil ?_
                              refine Go.inBlock ?_
                              exact hj69 _ _ _ h ⟨e54_2, e54_10, e54_11, e54_12⟩
                            · have h := h.2 hc146
                              refine Go.condF (btF rfl hc146) ?_
                              refine Go.seq ?_
                              refine Go.region rfl ?_
                              refine GoOps.q (v := .bool (x66 == 6)) rfl rfl (by decide) (q_eql rfl rfl) ?_
                              refine GoOps.q (v := .bool (x66 == 6)) rfl rfl (by decide) (q_assign rfl) ?_
                              refine GoOps.nil ?_
                              rcases bor (x66 == 6) with hc153 | hc153
                              · have h := h.1 hc153
                                refine Go.condT (btT rfl hc153) ?_
                                refine Go.seq ?_
                                refine Go.region rfl ?_
                                refine GoOps.q (v := .pointer y33) rfl rfl (by decide) (q_move e54_10) ?_
                                refine call_dst rfl (by decide) body21 (usage_Table_Release_s _ _ _ h) rfl ?_
                                rintro _ H154 ⟨y155, rfl, h⟩
                                refine GoOps.q (v := .pointer y37) rfl rfl (by decide) (q_move e54_11) ?_
                                refine call_dst rfl (by decide) body35 (keelsonref11_Table_Release_s _ _ _ h) rfl ?_
                                rintro _ H156 ⟨y157, rfl, h⟩
                                refine call_dst rfl (by decide) body22 (keelsonalike_Ints_s _ _ _ _ h) rfl ?_
                                rintro _ H158 ⟨y159, rfl, h⟩
                                refine GoOps.q (v := .bool (!y159)) rfl rfl (by decide) (q_not rfl) ?_
                                refine GoOps.nil ?_
                                rcases bor (!y159) with hc160 | hc160
                                · have h := h.1 hc160
                                  refine Go.condT (btT rfl hc160) ?_
                                  refine Go.seq ?_
                                  refine Go.region rfl ?_
                                  refine GoOps.q (v := .bool false) rfl rfl (by decide) (q_assign rfl) ?_
                                  refine GoOps.nil ?_
                                  exact Go.ret ⟨.inl rfl, _, _, DOk.nil, (resOk1 Try.results6 rfl), ⟨_, rfl, h⟩⟩
                                · have h := h.2 hc160
                                  refine Go.condF (btF rfl hc160) ?_
                                  refine Go.skip ?_
                                  refine Go.inBlock ?_
                                  exact hj69 _ _ _ h ⟨e54_2, e54_10, e54_11, e54_12⟩
                              · have h := h.2 hc153
                                refine Go.condF (btF rfl hc153) ?_
                                refine Go.skip ?_
                                refine Go.inBlock ?_
                                exact hj69 _ _ _ h ⟨e54_2, e54_10, e54_11, e54_12⟩
                · have h := h.2 hc56
                  refine Go.condF (btF rfl hc56) ?_
                  refine Go.exit rfl ?_
                  refine Go.seq ?_
                  refine Go.region rfl ?_
                  refine call_dst rfl (by decide) body7 (keelsonlaw12_awake_s _ _ h) rfl ?_
                  rintro _ H161 ⟨y162, rfl, h⟩
                  refine GoOps.q (v := .bool y162) rfl rfl (by decide) (q_assign rfl) ?_
                  refine GoOps.nil ?_
                  exact Go.ret ⟨.inl rfl, _, _, DOk.nil, (resOk1 Try.results6 rfl), ⟨_, rfl, h⟩⟩
            · intro j48 hj48 h
              rcases bor (Option.isNone y33) with hc46 | hc46
              · have h := h.1 hc46
                refine no_dst (want_no rfl rfl rfl hc46) rfl (by decide) ?_
                refine no_dst (want_no rfl rfl rfl hc46) rfl (by decide) ?_
                refine no_dst (want_no rfl rfl rfl hc46) rfl (by decide) ?_
                refine no_dst (want_no rfl rfl rfl hc46) rfl (by decide) ?_
                refine GoOps.q (v := .bool true) rfl rfl (by decide) (q_pickT (btT rfl hc46) rfl) ?_
                exact hj48 true _ _ h (by exact ⟨e30_2, rfl, rfl, rfl⟩)
              · have h := h.2 hc46
                refine GoOps.q (v := .pointer y33) (want_yes rfl rfl rfl hc46) rfl (by decide) (q_move rfl) ?_
                refine GoOps.q (v := .pointer y37) (want_yes rfl rfl rfl hc46) rfl (by decide) (q_move rfl) ?_
                refine call_dst (want_yes rfl rfl rfl hc46) (by decide) body28 (keelsonlaw12_same_s _ _ _ _ h) rfl ?_
                rintro _ H163 ⟨y164, rfl, h⟩
                refine GoOps.q (v := .bool (!y164)) (want_yes rfl rfl rfl hc46) rfl (by decide) (q_not rfl) ?_
                refine GoOps.q (v := .bool (!y164)) rfl rfl (by decide) (q_pickF (btF rfl hc46) rfl) ?_
                exact hj48 (!y164) _ _ h (by exact ⟨e30_2, rfl, rfl, rfl⟩)
      · intro j28 hj28 h
        rcases bor (y25 != 0) with hc26 | hc26
        · have h := h.1 hc26
          refine no_dst (want_no rfl rfl rfl hc26) rfl (by decide) ?_
          refine no_dst (want_no rfl rfl rfl hc26) rfl (by decide) ?_
          refine GoOps.q (v := .bool true) rfl rfl (by decide) (q_pickT (btT rfl hc26) rfl) ?_
          exact hj28 true _ _ h (by exact ⟨e8_1, e8_2, rfl, rfl, rfl⟩)
        · have h := h.2 hc26
          refine GoOps.q (v := .pointer y24) (want_yes rfl rfl rfl hc26) rfl (by decide) (q_move rfl) ?_
          refine GoOps.q (v := .bool (Option.isNone y24)) (want_yes rfl rfl rfl hc26) rfl (by decide) (q_eqlPn Try.underlying28 rfl rfl) ?_
          refine GoOps.q (v := .bool (Option.isNone y24)) rfl rfl (by decide) (q_pickF (btF rfl hc26) rfl) ?_
          exact hj28 (Option.isNone y24) _ _ h (by exact ⟨e8_1, e8_2, rfl, rfl, rfl⟩)
  · intro j6 hj6 h
    rcases bor (decide (60 < (p1.len : Int))) with hc4 | hc4
    · have h := h.1 hc4
      refine no_dst (want_no rfl rfl rfl hc4) rfl (by decide) ?_
      refine no_dst (want_no rfl rfl rfl hc4) rfl (by decide) ?_
      refine no_dst (want_no rfl rfl rfl hc4) rfl (by decide) ?_
      refine GoOps.q (v := .bool true) rfl rfl (by decide) (q_pickT (btT rfl hc4) rfl) ?_
      exact hj6 true _ _ h (by exact ⟨rfl, rfl, rfl, rfl⟩)
    · have h := h.2 hc4
      refine GoOps.q (v := Sl.v p2) (want_yes rfl rfl rfl hc4) rfl (by decide) (q_move rfl) ?_
      refine GoOps.q (v := .int .i64 (p2.len : Int)) (want_yes rfl rfl rfl hc4) rfl (by decide) (q_len Try.underlying57 rfl (ls1 rfl)) ?_
      refine GoOps.q (v := .bool (decide (60 < (p2.len : Int)))) (want_yes rfl rfl rfl hc4) rfl (by decide) (q_gtr rfl rfl) ?_
      refine GoOps.q (v := .bool (decide (60 < (p2.len : Int)))) rfl rfl (by decide) (q_pickF (btF rfl hc4) rfl) ?_
      exact hj6 (decide (60 < (p2.len : Int))) _ _ h (by exact ⟨rfl, rfl, rfl, rfl⟩)

/-- (*keelson.usage.Table).Take$1 -/
def usage_Table_Take_c1 (p0 : (Int × Int)) (H : PH) (Q : Bool → PH → Prop) : Prop :=
  mNew H (row [.int .i64 p0.1, .int .i64 p0.2] 52) fun a1 H2 =>
  mLd (.int .i64) H2 (a1.add 0) fun x4 =>
  Q (x4 == 0) H2

set_option maxRecDepth 20000 in
set_option maxHeartbeats 1000000 in
theorem usage_Table_Take_c1_s (p0 : (Int × Int)) (H : PH) (Q : Bool → PH → Prop) (h : usage_Table_Take_c1 p0 H Q) :
    CallsH Try.prog 41 #[.agg ([.int .i64 p0.1, .int .i64 p0.2] : List Value).toArray] H (fun v H' => ∃ (r0 : Bool), v = .bool r0 ∧ Q r0 H') := by
  unfold usage_Table_Take_c1 at h
  refine callsH_of_go Try.func41 rfl Try.ntmps41 (Nat.le_of_ble_eq_true rfl) ?_
  refine Go.seq ?_
  refine Go.region rfl ?_
  refine op_dst rfl rfl (by decide) (do_newBox (cs := [.int .i64 p0.1, .int .i64 p0.2]) rfl rfl fun a1 H2 hb3 => ?_) 
  have h := h a1 H2 hb3
  refine GoOps.q (v := .bool false) rfl rfl (by decide) (q_assign rfl) ?_
  refine GoOps.nil ?_
  refine Go.seq ?_
  refine Go.region rfl ?_
  refine GoOps.q (v := .pointer (some (a1.add 0))) rfl rfl (by decide) (q_fieldAddr foff52_0 rfl) ?_
  obtain ⟨x4, hx5, h⟩ := h
  refine GoOps.q (v := .int .i64 x4) rfl rfl (by decide) (q_load scalar3 rfl hx5) ?_
  refine GoOps.q (v := .bool (x4 == 0)) rfl rfl (by decide) (q_eql rfl rfl) ?_
  refine GoOps.q (v := .bool (x4 == 0)) rfl rfl (by decide) (q_assign rfl) ?_
  refine GoOps.nil ?_
  exact Go.ret ⟨.inl rfl, _, _, DOk.nil, (resOk1 Try.results41 rfl), ⟨_, rfl, h⟩⟩


end Go.Proofs.Ytmgmjcjpmfdboaa

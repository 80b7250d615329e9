import Derived.Test.YtdoldlinaghfbaaFnp2
set_option linter.unusedVariables false
set_option linter.unusedSimpArgs false
namespace Go.Proofs.Ytdoldlinaghfbaa
open Go Go.Kx Go.Proofs
/-- (*keelson.keelsonref1.Disk).Crash -/
def keelsonref1_Disk_Crash (p0 : Option Addr) (p1 : Sl) (H : PH) (Q : Option Addr → PH → Prop) : Prop :=
  mNil p0 fun a1 =>
  mLd Sl.v H (a1.add 0) fun x3 =>
  keelsonref1_NewDisk (x3.len : Int) H fun y6 H5 =>
  mNewS H5 (row [] 28) 0 fun r7 H8 =>
  mNil p0 fun a10 =>
  mLd Sl.v H8 (a10.add 6) fun x12 =>
  mApp H8 28 1 24 [.slice none 0 0] r7 x12 fun r14 H15 =>
  mNil y6 fun a16 =>
  mSt H15 (a16.add 6) ([Sl.v r14]) fun H18 =>
  mLoop (fun (s20 : Int) (H23 : PH) (again21 : Int → PH → Prop) =>
  mNil p0 fun a24 =>
  mLd Sl.v H23 (a24.add 0) fun x26 =>
  mIf (decide (s20 < (x26.len : Int)))
  (mNil y6 fun a29 =>
  mLd Sl.v H23 (a29.add 0) fun x31 =>
  mIdx x31 1 s20 fun a33 =>
  mLd Sl.v H23 a33 fun x35 =>
  mNil p0 fun a37 =>
  mLd Sl.v H23 (a37.add 0) fun x39 =>
  mIdx x39 1 s20 fun a41 =>
  mLd Sl.v H23 a41 fun x43 =>
  mCopy H23 1 x35 x43 fun x45 H46 =>
  mNil y6 fun a47 =>
  mLd Sl.v H46 (a47.add 2) fun x49 =>
  mNil p0 fun a51 =>
  mLd Sl.v H46 (a51.add 2) fun x53 =>
  mIdx x53 1 s20 fun a55 =>
  mLd .bool H46 a55 fun x57 =>
  mIdx x49 1 s20 fun a59 =>
  mSt H46 a59 ([.bool x57]) fun H61 =>
  again21 (IntKind.wrap .i64 (s20 + 1)) H61)
  (mLoop (fun (s63 : Bool × Int) (H66 : PH) (again64 : (Bool × Int) → PH → Prop) =>
  mNil p0 fun a67 =>
  mLd Sl.v H66 (a67.add 1) fun x69 =>
  mIf (decide (s63.2 < (x69.len : Int)))
  (mJoin (fun (s72 : Int) (H74 : PH) =>
  mJoin (fun (s76 : Int) (H78 : PH) =>
  mJoin (fun (s81 : Bool) (H83 : PH) =>
  mJoin (fun (s85 : Bool × Int) (H87 : PH) =>
  mNil y6 fun a89 =>
  mLd Sl.v H87 (a89.add 0) fun x91 =>
  mNil p0 fun a93 =>
  mLd Sl.v H87 (a93.add 1) fun x95 =>
  mIdx x95 2 s63.2 fun a97 =>
  mLd (.int .i64) H87 (a97.add 0) fun x99 =>
  mIdx x91 1 x99 fun a101 =>
  mLd Sl.v H87 a101 fun x103 =>
  mNil p0 fun a105 =>
  mLd Sl.v H87 (a105.add 1) fun x107 =>
  mIdx x107 2 s63.2 fun a109 =>
  mLd Sl.v H87 (a109.add 1) fun x111 =>
  mCut x111 1 0 s85.2 fun r114 =>
  mCopy H87 1 x103 r114 fun x115 H116 =>
  again64 (s85.1, IntKind.wrap .i64 (s63.2 + 1)) H116)
  fun j86 =>
  mIf s81
  (j86 (true, IntKind.wrap .i64 (Int.tdiv s72 3)) H83)
  (j86 (s63.1, s76) H83))
  fun j82 =>
  mIf ((Int.tmod s72 3) == 2)
  (j82 (!s63.1) H78)
  (j82 false H78))
  fun j77 =>
  mIf ((Int.tmod s72 3) == 1)
  (j77 64 H74)
  (j77 0 H74))
  fun j73 =>
  mIf (decide (s63.2 < (p1.len : Int)))
  (mIdx p1 1 s63.2 fun a120 =>
  mLd (.int .i64) H66 a120 fun x122 =>
  keelsonref1_Mod x122 192 H66 fun y125 H124 =>
  j73 y125 H124)
  (j73 0 H66))
  (Q y6 H66))
  (false, 0) H23))
  0 H18

set_option maxRecDepth 20000 in
set_option maxHeartbeats 1000000 in
theorem keelsonref1_Disk_Crash_s (p0 : Option Addr) (p1 : Sl) (H : PH) (Q : Option Addr → PH → Prop) (h : keelsonref1_Disk_Crash p0 p1 H Q) :
    CallsH Try.prog 25 #[.pointer p0, Sl.v p1] H (fun v H' => ∃ (r0 : Option Addr), v = .pointer r0 ∧ Q r0 H') := by
  unfold keelsonref1_Disk_Crash at h
  refine callsH_of_go Try.func25 rfl Try.ntmps25 (Nat.le_of_ble_eq_true rfl) ?_
  refine Go.seq ?_
  refine Go.region rfl ?_
  refine GoOps.q (v := .pointer none) rfl rfl (by decide) (q_assign rfl) ?_
  refine GoOps.nil ?_
  refine Go.seq ?_
  refine Go.region rfl ?_
  refine GoOps.q (v := .pointer p0) rfl rfl (by decide) (q_move rfl) ?_
  obtain ⟨a1, ha2, h⟩ := h
  refine GoOps.q (v := .pointer (some a1)) rfl rfl (by decide) (q_nilCheck (ptn rfl ha2)) ?_
  refine GoOps.q (v := .pointer (some (a1.add 0))) rfl rfl (by decide) (q_fieldAddr foff64_0 rfl) ?_
  obtain ⟨x3, hx4, h⟩ := h
  refine GoOps.q (v := Sl.v x3) rfl rfl (by decide) (q_load scalar41 rfl hx4) ?_
  refine GoOps.q (v := .int .i64 (x3.len : Int)) rfl rfl (by decide) (q_len Try.underlying41 rfl (ls1 rfl)) ?_
  refine call_dst rfl (by decide) body28 (keelsonref1_NewDisk_s _ _ _ h) rfl ?_
  rintro _ H5 ⟨y6, rfl, h⟩
  refine GoOps.q (v := .pointer y6) rfl rfl (by decide) (q_assign rfl) ?_
  refine GoOps.nil ?_
  refine Go.seq ?_
  refine Go.region rfl ?_
  refine GoOps.q (v := .pointer y6) rfl rfl (by decide) (q_move rfl) ?_
  refine op_dst rfl rfl (by decide) (do_bs0 slice41 fun r7 H8 hb9 => ?_) 
  have h := h r7 H8 hb9
  refine GoOps.q (v := .pointer p0) rfl rfl (by decide) (q_move rfl) ?_
  obtain ⟨a10, ha11, h⟩ := h
  refine GoOps.q (v := .pointer (some a10)) rfl rfl (by decide) (q_nilCheck (ptn rfl ha11)) ?_
  refine GoOps.q (v := .pointer (some (a10.add 6))) rfl rfl (by decide) (q_fieldAddr foff64_6 rfl) ?_
  obtain ⟨x12, hx13, h⟩ := h
  refine GoOps.q (v := Sl.v x12) rfl rfl (by decide) (q_load scalar41 rfl hx13) ?_
  refine op_dst rfl rfl (by decide) (do_append (zs := [.slice none 0 0]) slice41 bytes28 (by decide) zero28 rfl rfl (by decide) rfl rfl Try.underlying41 rfl h fun r14 H15 h => ?_) 
  obtain ⟨a16, ha17, h⟩ := h
  refine GoOps.q (v := .pointer (some a16)) rfl rfl (by decide) (q_nilCheck (ptn rfl ha17)) ?_
  refine GoOps.q (v := .pointer (some (a16.add 6))) rfl rfl (by decide) (q_fieldAddr foff64_6 rfl) ?_
  obtain ⟨q19b, q19o, q19c, q19e, hq19a, hq19b, hq19l, hq19v, h⟩ := h
  refine op_none rfl rfl (do_store (vs := [Sl.v r14]) size41 (pta rfl hq19a) rfl rfl rfl hq19v hq19b hq19l ?_) 
  refine GoOps.nil ?_
  refine Go.seq ?_
  refine Go.seq ?_
  refine Go.region rfl ?_
  refine GoOps.q (v := .int .i64 0) rfl rfl (by decide) (q_assign rfl) ?_
  refine GoOps.nil ?_
  refine Go.block ?_
  refine loop_go (fun ρ (s20 : Int) => ρ 0 = .pointer p0 ∧ ρ 1 = Sl.v p1 ∧ ρ 5 = .pointer y6 ∧ ρ 6 = .int .i64 s20) h ⟨rfl, rfl, rfl, rfl⟩ ?_
  clear h
  intro ρ s20 H23 again21 hE h hagain21
  obtain ⟨e22_0, e22_1, e22_5, e22_6⟩ := hE
  refine Go.seq ?_
  refine Go.seq ?_
  refine Go.region rfl ?_
  refine GoOps.q (v := .int .i64 s20) rfl rfl (by decide) (q_move e22_6) ?_
  refine GoOps.q (v := .pointer p0) rfl rfl (by decide) (q_move e22_0) ?_
  obtain ⟨a24, ha25, h⟩ := h
  refine GoOps.q (v := .pointer (some a24)) rfl rfl (by decide) (q_nilCheck (ptn rfl ha25)) ?_
  refine GoOps.q (v := .pointer (some (a24.add 0))) rfl rfl (by decide) (q_fieldAddr foff64_0 rfl) ?_
  obtain ⟨x26, hx27, h⟩ := h
  refine GoOps.q (v := Sl.v x26) rfl rfl (by decide) (q_load scalar41 rfl hx27) ?_
  refine GoOps.q (v := .int .i64 (x26.len : Int)) rfl rfl (by decide) (q_len Try.underlying41 rfl (ls1 rfl)) ?_
  refine GoOps.q (v := .bool (decide (s20 < (x26.len : Int)))) rfl rfl (by decide) (q_lss rfl rfl) ?_
  refine GoOps.nil ?_
  rcases bor (decide (s20 < (x26.len : Int))) with hc28 | hc28
  · have h := h.1 hc28
    refine Go.condT (btT rfl hc28) ?_
    refine Go.skip ?_
    refine Go.seq ?_
    refine Go.block ?_
    refine Go.seq ?_
    refine Go.draw mixed ?_
    refine plan_pure (i := 0) (d := 35) (S2 := 1) (v := .pointer y6) rfl (by decide +kernel) rfl (q_move e22_5) ?_
    obtain ⟨a29, ha30, h⟩ := h
    refine plan_pure (i := 1) (d := 36) (S2 := 3) (v := .pointer (some a29)) rfl (by decide +kernel) rfl (q_nilCheck (ptn rfl ha30)) ?_
    refine plan_pure (i := 2) (d := 37) (S2 := 7) (v := .pointer (some (a29.add 0))) rfl (by decide +kernel) rfl (q_fieldAddr foff64_0 rfl) ?_
    obtain ⟨x31, hx32, h⟩ := h
    refine plan_load (i := 3) (d := 38) (S2 := 15) (v := Sl.v x31) rfl (by decide +kernel) rfl (q_load scalar41 rfl hx32) ?_
    refine plan_pure (i := 4) (d := 39) (S2 := 31) (v := .int .i64 s20) rfl (by decide +kernel) rfl (q_move e22_6) ?_
    obtain ⟨a33, ha34, h⟩ := h
    refine plan_pure (i := 5) (d := 40) (S2 := 63) (v := .pointer (some a33)) rfl (by decide +kernel) rfl (q_idx slice41 ha34 rfl rfl) ?_
    obtain ⟨x35, hx36, h⟩ := h
    refine plan_load (i := 6) (d := 41) (S2 := 127) (v := Sl.v x35) rfl (by decide +kernel) rfl (q_load scalar28 rfl hx36) ?_
    refine plan_pure (i := 7) (d := 42) (S2 := 255) (v := .pointer p0) rfl (by decide +kernel) rfl (q_move e22_0) ?_
    obtain ⟨a37, ha38, h⟩ := h
    refine plan_pure (i := 8) (d := 43) (S2 := 511) (v := .pointer (some a37)) rfl (by decide +kernel) rfl (q_nilCheck (ptn rfl ha38)) ?_
    refine plan_pure (i := 9) (d := 44) (S2 := 1023) (v := .pointer (some (a37.add 0))) rfl (by decide +kernel) rfl (q_fieldAddr foff64_0 rfl) ?_
    obtain ⟨x39, hx40, h⟩ := h
    refine plan_load (i := 10) (d := 45) (S2 := 2047) (v := Sl.v x39) rfl (by decide +kernel) rfl (q_load scalar41 rfl hx40) ?_
    refine plan_pure (i := 11) (d := 46) (S2 := 4095) (v := .int .i64 s20) rfl (by decide +kernel) rfl (q_move e22_6) ?_
    obtain ⟨a41, ha42, h⟩ := h
    refine plan_pure (i := 12) (d := 47) (S2 := 8191) (v := .pointer (some a41)) rfl (by decide +kernel) rfl (q_idx slice41 ha42 rfl rfl) ?_
    obtain ⟨x43, hx44, h⟩ := h
    refine plan_load (i := 13) (d := 48) (S2 := 16383) (v := Sl.v x43) rfl (by decide +kernel) rfl (q_load scalar28 rfl hx44) ?_
    refine plan_one (j := 14) (S2 := 32767) (by decide +kernel) rfl (by decide) rfl ?_
    refine do_copy slice28 rfl rfl h fun x45 H46 h => ?_
    refine ⟨_, (.inl ⟨⟨[14], by decide +kernel, rfl⟩, .inl ⟨⟨[12, 13, 14], by decide +kernel, rfl⟩, .inl ⟨⟨[14], by decide +kernel, rfl⟩, .inl ⟨⟨[5, 6, 14], by decide +kernel, rfl⟩, rfl⟩⟩⟩⟩), ?_⟩
    refine plan_done (by decide +kernel) ?_
    refine Go.draw mixed ?_
    refine plan_pure (i := 0) (d := 50) (S2 := 1) (v := .pointer y6) rfl (by decide +kernel) rfl (q_move e22_5) ?_
    obtain ⟨a47, ha48, h⟩ := h
    refine plan_pure (i := 1) (d := 51) (S2 := 3) (v := .pointer (some a47)) rfl (by decide +kernel) rfl (q_nilCheck (ptn rfl ha48)) ?_
    refine plan_pure (i := 2) (d := 52) (S2 := 7) (v := .pointer (some (a47.add 2))) rfl (by decide +kernel) rfl (q_fieldAddr foff64_2 rfl) ?_
    obtain ⟨x49, hx50, h⟩ := h
    refine plan_load (i := 3) (d := 53) (S2 := 15) (v := Sl.v x49) rfl (by decide +kernel) rfl (q_load scalar62 rfl hx50) ?_
    refine plan_pure (i := 4) (d := 54) (S2 := 31) (v := .int .i64 s20) rfl (by decide +kernel) rfl (q_move e22_6) ?_
    refine plan_pure (i := 5) (d := 55) (S2 := 63) (v := .pointer p0) rfl (by decide +kernel) rfl (q_move e22_0) ?_
    obtain ⟨a51, ha52, h⟩ := h
    refine plan_pure (i := 6) (d := 56) (S2 := 127) (v := .pointer (some a51)) rfl (by decide +kernel) rfl (q_nilCheck (ptn rfl ha52)) ?_
    refine plan_pure (i := 7) (d := 57) (S2 := 255) (v := .pointer (some (a51.add 2))) rfl (by decide +kernel) rfl (q_fieldAddr foff64_2 rfl) ?_
    obtain ⟨x53, hx54, h⟩ := h
    refine plan_load (i := 8) (d := 58) (S2 := 511) (v := Sl.v x53) rfl (by decide +kernel) rfl (q_load scalar62 rfl hx54) ?_
    refine plan_pure (i := 9) (d := 59) (S2 := 1023) (v := .int .i64 s20) rfl (by decide +kernel) rfl (q_move e22_6) ?_
    obtain ⟨a55, ha56, h⟩ := h
    refine plan_pure (i := 10) (d := 60) (S2 := 2047) (v := .pointer (some a55)) rfl (by decide +kernel) rfl (q_idx slice62 ha56 rfl rfl) ?_
    obtain ⟨x57, hx58, h⟩ := h
    refine plan_load (i := 11) (d := 61) (S2 := 4095) (v := .bool x57) rfl (by decide +kernel) rfl (q_load scalar4 rfl hx58) ?_
    obtain ⟨a59, ha60, h⟩ := h
    refine plan_pure (i := 12) (d := 62) (S2 := 8191) (v := .pointer (some a59)) rfl (by decide +kernel) rfl (q_idx slice62 ha60 rfl rfl) ?_
    refine plan_one (j := 13) (S2 := 16383) (by decide +kernel) rfl (by decide) rfl ?_
    obtain ⟨q62b, q62o, q62c, q62e, hq62a, hq62b, hq62l, hq62v, h⟩ := h
    refine do_store (vs := [.bool x57]) size4 (pta rfl hq62a) rfl rfl rfl hq62v hq62b hq62l ?_
    refine ⟨_, (.inl ⟨⟨[13], by decide +kernel, rfl⟩, .inl ⟨⟨[13], by decide +kernel, rfl⟩, .inl ⟨⟨[13], by decide +kernel, rfl⟩, rfl⟩⟩⟩), ?_⟩
    refine plan_done (by decide +kernel) ?_
    refine Go.inBlock ?_
    refine Go.region rfl ?_
    refine GoOps.q (v := .int .i64 s20) rfl rfl (by decide) (q_move e22_6) ?_
    refine GoOps.q (v := .int .i64 (IntKind.wrap .i64 (s20 + 1))) rfl rfl (by decide) (q_add rfl rfl) ?_
    refine GoOps.q (v := .int .i64 (IntKind.wrap .i64 (s20 + 1))) rfl rfl (by decide) (q_assign rfl) ?_
    refine GoOps.nil ?_
    exact hagain21 _ _ _ h ⟨e22_0, e22_1, e22_5, rfl⟩
  · have h := h.2 hc28
    refine Go.condF (btF rfl hc28) ?_
    refine Go.exit rfl ?_
    refine Go.seq ?_
    refine Go.region rfl ?_
    refine GoOps.q (v := .bool false) rfl rfl (by decide) (q_assign rfl) ?_
    refine GoOps.nil ?_
    refine Go.seq ?_
    refine Go.seq ?_
    refine Go.region rfl ?_
    refine GoOps.q (v := .int .i64 0) rfl rfl (by decide) (q_assign rfl) ?_
    refine GoOps.nil ?_
    refine Go.block ?_
    refine loop_go (fun ρ (s63 : Bool × Int) => ρ 0 = .pointer p0 ∧ ρ 1 = Sl.v p1 ∧ ρ 5 = .pointer y6 ∧ ρ 7 = .bool s63.1 ∧ ρ 8 = .int .i64 s63.2) h ⟨e22_0, e22_1, e22_5, rfl, rfl⟩ ?_
    clear h
    intro ρ s63 H66 again64 hE h hagain64
    obtain ⟨e65_0, e65_1, e65_5, e65_7, e65_8⟩ := hE
    refine Go.seq ?_
    refine Go.seq ?_
    refine Go.region rfl ?_
    refine GoOps.q (v := .int .i64 s63.2) rfl rfl (by decide) (q_move e65_8) ?_
    refine GoOps.q (v := .pointer p0) rfl rfl (by decide) (q_move e65_0) ?_
    obtain ⟨a67, ha68, h⟩ := h
    refine GoOps.q (v := .pointer (some a67)) rfl rfl (by decide) (q_nilCheck (ptn rfl ha68)) ?_
    refine GoOps.q (v := .pointer (some (a67.add 1))) rfl rfl (by decide) (q_fieldAddr foff64_1 rfl) ?_
    obtain ⟨x69, hx70, h⟩ := h
    refine GoOps.q (v := Sl.v x69) rfl rfl (by decide) (q_load scalar61 rfl hx70) ?_
    refine GoOps.q (v := .int .i64 (x69.len : Int)) rfl rfl (by decide) (q_len Try.underlying61 rfl (ls1 rfl)) ?_
    refine GoOps.q (v := .bool (decide (s63.2 < (x69.len : Int)))) rfl rfl (by decide) (q_lss rfl rfl) ?_
    refine GoOps.nil ?_
    rcases bor (decide (s63.2 < (x69.len : Int))) with hc71 | hc71
    · have h := h.1 hc71
      refine Go.condT (btT rfl hc71) ?_
      refine Go.skip ?_
      refine Go.seq ?_
      refine Go.block ?_
      refine Go.seq ?_
      refine Go.region rfl ?_
      refine GoOps.q (v := .int .i64 0) rfl rfl (by decide) (q_assign rfl) ?_
      refine GoOps.nil ?_
      refine Go.seq ?_
      refine Go.seq ?_
      refine Go.region rfl ?_
      refine GoOps.q (v := .int .i64 s63.2) rfl rfl (by decide) (q_move e65_8) ?_
      refine GoOps.q (v := Sl.v p1) rfl rfl (by decide) (q_move e65_1) ?_
      refine GoOps.q (v := .int .i64 (p1.len : Int)) rfl rfl (by decide) (q_len Try.underlying37 rfl (ls1 rfl)) ?_
      refine GoOps.q (v := .bool (decide (s63.2 < (p1.len : Int)))) rfl rfl (by decide) (q_lss rfl rfl) ?_
      refine GoOps.nil ?_
      refine join_go 1 (fun ρ (s72 : Int) => ρ 0 = .pointer p0 ∧ ρ 1 = Sl.v p1 ∧ ρ 5 = .pointer y6 ∧ ρ 7 = .bool s63.1 ∧ ρ 8 = .int .i64 s63.2 ∧ ρ 9 = .int .i64 s72) h ?_ ?_ <;> clear h
      · intro s72 H74 ρ h hE
        obtain ⟨e75_0, e75_1, e75_5, e75_7, e75_8, e75_9⟩ := hE
        refine Go.seq ?_
        refine Go.region rfl ?_
        refine GoOps.q (v := .int .i64 0) rfl rfl (by decide) (q_assign rfl) ?_
        refine GoOps.nil ?_
        refine Go.seq ?_
        refine Go.seq ?_
        refine Go.region rfl ?_
        refine GoOps.q (v := .int .i64 s72) rfl rfl (by decide) (q_move e75_9) ?_
        refine GoOps.q (v := .int .i64 (Int.tmod s72 3)) rfl rfl (by decide) (q_rem (by decide) rfl rfl) ?_
        refine GoOps.q (v := .bool ((Int.tmod s72 3) == 1)) rfl rfl (by decide) (q_eql rfl rfl) ?_
        refine GoOps.nil ?_
        refine join_go 1 (fun ρ (s76 : Int) => ρ 0 = .pointer p0 ∧ ρ 1 = Sl.v p1 ∧ ρ 5 = .pointer y6 ∧ ρ 7 = .bool s63.1 ∧ ρ 8 = .int .i64 s63.2 ∧ ρ 9 = .int .i64 s72 ∧ ρ 10 = .int .i64 s76) h ?_ ?_ <;> clear h
        · intro s76 H78 ρ h hE
          obtain ⟨e79_0, e79_1, e79_5, e79_7, e79_8, e79_9, e79_10⟩ := hE
          refine Go.seq ?_
          refine Go.seq ?_
          refine Go.region rfl ?_
          refine GoOps.q (v := .int .i64 s72) rfl rfl (by decide) (q_move e79_9) ?_
          refine GoOps.q (v := .int .i64 (Int.tmod s72 3)) rfl rfl (by decide) (q_rem (by decide) rfl rfl) ?_
          refine GoOps.q (v := .bool ((Int.tmod s72 3) == 2)) rfl rfl (by decide) (q_eql rfl rfl) ?_
          refine GoOps.q (v := .bool ((Int.tmod s72 3) == 2)) rfl rfl (by decide) (q_move rfl) ?_
          refine join_ops 3 (fun ρ (s81 : Bool) => ρ 0 = .pointer p0 ∧ ρ 1 = Sl.v p1 ∧ ρ 5 = .pointer y6 ∧ ρ 7 = .bool s63.1 ∧ ρ 8 = .int .i64 s63.2 ∧ ρ 9 = .int .i64 s72 ∧ ρ 10 = .int .i64 s76 ∧ ρ 90 = .bool s81) h ?_ ?_ <;> clear h
          · intro s81 H83 ρ h hE
            obtain ⟨e84_0, e84_1, e84_5, e84_7, e84_8, e84_9, e84_10, e84_90⟩ := hE
            refine GoOps.nil ?_
            refine join_go 1 (fun ρ (s85 : Bool × Int) => ρ 0 = .pointer p0 ∧ ρ 1 = Sl.v p1 ∧ ρ 5 = .pointer y6 ∧ ρ 7 = .bool s85.1 ∧ ρ 8 = .int .i64 s63.2 ∧ ρ 10 = .int .i64 s85.2) h ?_ ?_ <;> clear h
            · intro s85 H87 ρ h hE
              obtain ⟨e88_0, e88_1, e88_5, e88_7, e88_8, e88_10⟩ := hE
              refine Go.draw mixed ?_
              refine plan_pure (i := 0) (d := 93) (S2 := 1) (v := .pointer y6) rfl (by decide +kernel) rfl (q_move e88_5) ?_
              obtain ⟨a89, ha90, h⟩ := h
              refine plan_pure (i := 1) (d := 94) (S2 := 3) (v := .pointer (some a89)) rfl (by decide +kernel) rfl (q_nilCheck (ptn rfl ha90)) ?_
              refine plan_pure (i := 2) (d := 95) (S2 := 7) (v := .pointer (some (a89.add 0))) rfl (by decide +kernel) rfl (q_fieldAddr foff64_0 rfl) ?_
              obtain ⟨x91, hx92, h⟩ := h
              refine plan_load (i := 3) (d := 96) (S2 := 15) (v := Sl.v x91) rfl (by decide +kernel) rfl (q_load scalar41 rfl hx92) ?_
              refine plan_pure (i := 4) (d := 97) (S2 := 31) (v := .pointer p0) rfl (by decide +kernel) rfl (q_move e88_0) ?_
              obtain ⟨a93, ha94, h⟩ := h
              refine plan_pure (i := 5) (d := 98) (S2 := 63) (v := .pointer (some a93)) rfl (by decide +kernel) rfl (q_nilCheck (ptn rfl ha94)) ?_
              refine plan_pure (i := 6) (d := 99) (S2 := 127) (v := .pointer (some (a93.add 1))) rfl (by decide +kernel) rfl (q_fieldAddr foff64_1 rfl) ?_
              obtain ⟨x95, hx96, h⟩ := h
              refine plan_load (i := 7) (d := 100) (S2 := 255) (v := Sl.v x95) rfl (by decide +kernel) rfl (q_load scalar61 rfl hx96) ?_
              refine plan_pure (i := 8) (d := 101) (S2 := 511) (v := .int .i64 s63.2) rfl (by decide +kernel) rfl (q_move e88_8) ?_
              obtain ⟨a97, ha98, h⟩ := h
              refine plan_pure (i := 9) (d := 102) (S2 := 1023) (v := .pointer (some a97)) rfl (by decide +kernel) rfl (q_idx slice61 ha98 rfl rfl) ?_
              refine plan_pure (i := 10) (d := 103) (S2 := 2047) (v := .pointer (some (a97.add 0))) rfl (by decide +kernel) rfl (q_fieldAddr foff80_0 rfl) ?_
              obtain ⟨x99, hx100, h⟩ := h
              refine plan_load (i := 11) (d := 104) (S2 := 4095) (v := .int .i64 x99) rfl (by decide +kernel) rfl (q_load scalar3 rfl hx100) ?_
              obtain ⟨a101, ha102, h⟩ := h
              refine plan_pure (i := 12) (d := 105) (S2 := 8191) (v := .pointer (some a101)) rfl (by decide +kernel) rfl (q_idx slice41 ha102 rfl rfl) ?_
              obtain ⟨x103, hx104, h⟩ := h
              refine plan_load (i := 13) (d := 106) (S2 := 16383) (v := Sl.v x103) rfl (by decide +kernel) rfl (q_load scalar28 rfl hx104) ?_
              refine plan_pure (i := 14) (d := 107) (S2 := 32767) (v := .pointer p0) rfl (by decide +kernel) rfl (q_move e88_0) ?_
              obtain ⟨a105, ha106, h⟩ := h
              refine plan_pure (i := 15) (d := 108) (S2 := 65535) (v := .pointer (some a105)) rfl (by decide +kernel) rfl (q_nilCheck (ptn rfl ha106)) ?_
              refine plan_pure (i := 16) (d := 109) (S2 := 131071) (v := .pointer (some (a105.add 1))) rfl (by decide +kernel) rfl (q_fieldAddr foff64_1 rfl) ?_
              obtain ⟨x107, hx108, h⟩ := h
              refine plan_load (i := 17) (d := 110) (S2 := 262143) (v := Sl.v x107) rfl (by decide +kernel) rfl (q_load scalar61 rfl hx108) ?_
              refine plan_pure (i := 18) (d := 111) (S2 := 524287) (v := .int .i64 s63.2) rfl (by decide +kernel) rfl (q_move e88_8) ?_
              obtain ⟨a109, ha110, h⟩ := h
              refine plan_pure (i := 19) (d := 112) (S2 := 1048575) (v := .pointer (some a109)) rfl (by decide +kernel) rfl (q_idx slice61 ha110 rfl rfl) ?_
              refine plan_pure (i := 20) (d := 113) (S2 := 2097151) (v := .pointer (some (a109.add 1))) rfl (by decide +kernel) rfl (q_fieldAddr foff80_1 rfl) ?_
              obtain ⟨x111, hx112, h⟩ := h
              refine plan_load (i := 21) (d := 114) (S2 := 4194303) (v := Sl.v x111) rfl (by decide +kernel) rfl (q_load scalar28 rfl hx112) ?_
              refine plan_pure (i := 22) (d := 115) (S2 := 8388607) (v := .int .i64 s85.2) rfl (by decide +kernel) rfl (q_move e88_10) ?_
              obtain ⟨r114, hm113, h⟩ := h
              refine plan_pure (i := 23) (d := 116) (S2 := 16777215) (v := Sl.v r114) rfl (by decide +kernel) rfl (q_cut slice28 hm113 rfl rfl ⟨_, rfl⟩) ?_
              refine plan_one (j := 24) (S2 := 33554431) (by decide +kernel) rfl (by decide) rfl ?_
              refine do_copy slice28 rfl rfl h fun x115 H116 h => ?_
              refine ⟨_, (.inl ⟨⟨[23, 24], by decide +kernel, rfl⟩, .inl ⟨⟨[19, 20, 21, 23, 24], by decide +kernel, rfl⟩, .inl ⟨⟨[24], by decide +kernel, rfl⟩, .inl ⟨⟨[12, 13, 24], by decide +kernel, rfl⟩, .inl ⟨⟨[9, 10, 11, 12, 13, 24], by decide +kernel, rfl⟩, .inl ⟨⟨[12, 13, 24], by decide +kernel, rfl⟩, rfl⟩⟩⟩⟩⟩⟩), ?_⟩
              refine plan_done (by decide +kernel) ?_
              refine Go.inBlock ?_
              refine Go.region rfl ?_
              refine GoOps.q (v := .int .i64 s63.2) rfl rfl (by decide) (q_move e88_8) ?_
              refine GoOps.q (v := .int .i64 (IntKind.wrap .i64 (s63.2 + 1))) rfl rfl (by decide) (q_add rfl rfl) ?_
              refine GoOps.q (v := .int .i64 (IntKind.wrap .i64 (s63.2 + 1))) rfl rfl (by decide) (q_assign rfl) ?_
              refine GoOps.nil ?_
              exact hagain64 _ _ _ h ⟨e88_0, e88_1, e88_5, e88_7, rfl⟩
            · intro j86 hj86 h
              rcases bor s81 with hc117 | hc117
              · have h := h.1 hc117
                refine Go.condT (btT e84_90 hc117) ?_
                refine Go.seq ?_
                refine Go.region rfl ?_
                refine GoOps.q (v := .bool true) rfl rfl (by decide) (q_assign rfl) ?_
                refine GoOps.nil ?_
                refine Go.region rfl ?_
                refine GoOps.q (v := .int .i64 s72) rfl rfl (by decide) (q_move e84_9) ?_
                refine GoOps.q (v := .int .i64 (IntKind.wrap .i64 (Int.tdiv s72 3))) rfl rfl (by decide) (q_quo (by decide) rfl rfl) ?_
                refine GoOps.q (v := .int .i64 (IntKind.wrap .i64 (Int.tdiv s72 3))) rfl rfl (by decide) (q_assign rfl) ?_
                refine GoOps.nil ?_
                exact hj86 _ _ _ h ⟨e84_0, e84_1, e84_5, rfl, e84_8, rfl⟩
              · have h := h.2 hc117
                refine Go.condF (btF e84_90 hc117) ?_
                refine Go.skip ?_
                exact hj86 _ _ _ h ⟨e84_0, e84_1, e84_5, e84_7, e84_8, e84_10⟩
          · intro j82 hj82 h
            rcases bor ((Int.tmod s72 3) == 2) with hc80 | hc80
            · have h := h.1 hc80
              refine GoOps.q (v := .bool s63.1) (want_yes rfl rfl rfl hc80) rfl (by decide) (q_move e79_7) ?_
              refine GoOps.q (v := .bool (!s63.1)) (want_yes rfl rfl rfl hc80) rfl (by decide) (q_not rfl) ?_
              refine GoOps.q (v := .bool (!s63.1)) rfl rfl (by decide) (q_pickT (btT rfl hc80) rfl) ?_
              exact hj82 (!s63.1) _ _ h (by exact ⟨e79_0, e79_1, e79_5, e79_7, e79_8, e79_9, e79_10, rfl⟩)
            · have h := h.2 hc80
              refine no_dst (want_no rfl rfl rfl hc80) rfl (by decide) ?_
              refine no_dst (want_no rfl rfl rfl hc80) rfl (by decide) ?_
              refine GoOps.q (v := .bool false) rfl rfl (by decide) (q_pickF (btF rfl hc80) rfl) ?_
              exact hj82 false _ _ h (by exact ⟨e79_0, e79_1, e79_5, e79_7, e79_8, e79_9, e79_10, rfl⟩)
        · intro j77 hj77 h
          rcases bor ((Int.tmod s72 3) == 1) with hc118 | hc118
          · have h := h.1 hc118
            refine Go.condT (btT rfl hc118) ?_
            refine Go.region rfl ?_
            refine GoOps.q (v := .int .i64 64) rfl rfl (by decide) (q_assign rfl) ?_
            refine GoOps.nil ?_
            exact hj77 _ _ _ h ⟨e75_0, e75_1, e75_5, e75_7, e75_8, e75_9, rfl⟩
          · have h := h.2 hc118
            refine Go.condF (btF rfl hc118) ?_
            refine Go.skip ?_
            exact hj77 _ _ _ h ⟨e75_0, e75_1, e75_5, e75_7, e75_8, e75_9, rfl⟩
      · intro j73 hj73 h
        rcases bor (decide (s63.2 < (p1.len : Int))) with hc119 | hc119
        · have h := h.1 hc119
          refine Go.condT (btT rfl hc119) ?_
          refine Go.region rfl ?_
          refine GoOps.q (v := Sl.v p1) rfl rfl (by decide) (q_move e65_1) ?_
          refine GoOps.q (v := .int .i64 s63.2) rfl rfl (by decide) (q_move e65_8) ?_
          obtain ⟨a120, ha121, h⟩ := h
          refine GoOps.q (v := .pointer (some a120)) rfl rfl (by decide) (q_idx slice37 ha121 rfl rfl) ?_
          obtain ⟨x122, hx123, h⟩ := h
          refine GoOps.q (v := .int .i64 x122) rfl rfl (by decide) (q_load scalar3 rfl hx123) ?_
          refine call_dst rfl (by decide) body32 (keelsonref1_Mod_s _ _ _ _ h) rfl ?_
          rintro _ H124 ⟨y125, rfl, h⟩
          refine GoOps.q (v := .int .i64 y125) rfl rfl (by decide) (q_assign rfl) ?_
          refine GoOps.nil ?_
          exact hj73 _ _ _ h ⟨e65_0, e65_1, e65_5, e65_7, e65_8, rfl⟩
        · have h := h.2 hc119
          refine Go.condF (btF rfl hc119) ?_
          refine Go.skip ?_
          exact hj73 _ _ _ h ⟨e65_0, e65_1, e65_5, e65_7, e65_8, rfl⟩
    · have h := h.2 hc71
      refine Go.condF (btF rfl hc71) ?_
      refine Go.exit rfl ?_
      refine Go.seq ?_
      refine Go.region rfl ?_
      refine GoOps.q (v := .pointer y6) rfl rfl (by decide) (q_move e65_5) ?_
      refine GoOps.q (v := .pointer y6) rfl rfl (by decide) (q_assign rfl) ?_
      refine GoOps.nil ?_
      exact Go.ret ⟨.inl rfl, _, _, DOk.nil, (resOk1 Try.results25 rfl), ⟨_, rfl, h⟩⟩

/-- (*keelson.keelsonref1.Disk).Flush -/
def keelsonref1_Disk_Flush (p0 : Option Addr) (H : PH) (Q : Int → PH → Prop) : Prop :=
  keelsonref1_Disk_act p0 H fun y2 H1 =>
  mIf (!y2)
  (Q 3 H1)
  (mLoop (fun (s4 : Int) (H7 : PH) (again5 : Int → PH → Prop) =>
  mNil p0 fun a8 =>
  mLd Sl.v H7 (a8.add 1) fun x10 =>
  mIf (decide (s4 < (x10.len : Int)))
  (mNil p0 fun a13 =>
  mLd Sl.v H7 (a13.add 0) fun x15 =>
  mNil p0 fun a17 =>
  mLd Sl.v H7 (a17.add 1) fun x19 =>
  mIdx x19 2 s4 fun a21 =>
  mLd (.int .i64) H7 (a21.add 0) fun x23 =>
  mNil p0 fun a25 =>
  mLd Sl.v H7 (a25.add 1) fun x27 =>
  mIdx x27 2 s4 fun a29 =>
  mLd Sl.v H7 (a29.add 1) fun x31 =>
  mIdx x15 1 x23 fun a33 =>
  mSt H7 a33 ([Sl.v x31]) fun H35 =>
  again5 (IntKind.wrap .i64 (s4 + 1)) H35)
  (mNil p0 fun a37 =>
  mSt H7 (a37.add 1) ([Sl.v Sl.nil]) fun H39 =>
  Q 0 H39))
  0 H1)

set_option maxRecDepth 20000 in
set_option maxHeartbeats 1000000 in
theorem keelsonref1_Disk_Flush_s (p0 : Option Addr) (H : PH) (Q : Int → PH → Prop) (h : keelsonref1_Disk_Flush p0 H Q) :
    CallsH Try.prog 26 #[.pointer p0] H (fun v H' => ∃ (r0 : Int), v = .int .i64 r0 ∧ Q r0 H') := by
  unfold keelsonref1_Disk_Flush at h
  refine callsH_of_go Try.func26 rfl Try.ntmps26 (Nat.le_of_ble_eq_true rfl) ?_
  refine Go.seq ?_
  refine Go.region rfl ?_
  refine GoOps.q (v := .int .i64 0) rfl rfl (by decide) (q_assign rfl) ?_
  refine GoOps.nil ?_
  refine Go.seq ?_
  refine Go.seq ?_
  refine Go.region rfl ?_
  refine GoOps.q (v := .pointer p0) rfl rfl (by decide) (q_move rfl) ?_
  refine call_dst rfl (by decide) body40 (keelsonref1_Disk_act_s _ _ _ h) rfl ?_
  rintro _ H1 ⟨y2, rfl, h⟩
  refine GoOps.q (v := .bool (!y2)) rfl rfl (by decide) (q_not rfl) ?_
  refine GoOps.nil ?_
  rcases bor (!y2) with hc3 | hc3
  · have h := h.1 hc3
    refine Go.condT (btT rfl hc3) ?_
    refine Go.seq ?_
    refine Go.region rfl ?_
    refine GoOps.q (v := .int .i64 3) rfl rfl (by decide) (q_assign rfl) ?_
    refine GoOps.nil ?_
    exact Go.ret ⟨.inl rfl, _, _, DOk.nil, (resOk1 Try.results26 rfl), ⟨_, rfl, h⟩⟩
  · have h := h.2 hc3
    refine Go.condF (btF rfl hc3) ?_
    refine Go.skip ?_
    refine Go.seq ?_
    refine Go.seq ?_
    refine Go.region rfl ?_
    refine GoOps.q (v := .int .i64 0) rfl rfl (by decide) (q_assign rfl) ?_
    refine GoOps.nil ?_
    refine Go.block ?_
    refine loop_go (fun ρ (s4 : Int) => ρ 0 = .pointer p0 ∧ ρ 3 = .int .i64 s4) h ⟨rfl, rfl⟩ ?_
    clear h
    intro ρ s4 H7 again5 hE h hagain5
    obtain ⟨e6_0, e6_3⟩ := hE
    refine Go.seq ?_
    refine Go.seq ?_
    refine Go.region rfl ?_
    refine GoOps.q (v := .int .i64 s4) rfl rfl (by decide) (q_move e6_3) ?_
    refine GoOps.q (v := .pointer p0) rfl rfl (by decide) (q_move e6_0) ?_
    obtain ⟨a8, ha9, h⟩ := h
    refine GoOps.q (v := .pointer (some a8)) rfl rfl (by decide) (q_nilCheck (ptn rfl ha9)) ?_
    refine GoOps.q (v := .pointer (some (a8.add 1))) rfl rfl (by decide) (q_fieldAddr foff64_1 rfl) ?_
    obtain ⟨x10, hx11, h⟩ := h
    refine GoOps.q (v := Sl.v x10) rfl rfl (by decide) (q_load scalar61 rfl hx11) ?_
    refine GoOps.q (v := .int .i64 (x10.len : Int)) rfl rfl (by decide) (q_len Try.underlying61 rfl (ls1 rfl)) ?_
    refine GoOps.q (v := .bool (decide (s4 < (x10.len : Int)))) rfl rfl (by decide) (q_lss rfl rfl) ?_
    refine GoOps.nil ?_
    rcases bor (decide (s4 < (x10.len : Int))) with hc12 | hc12
    · have h := h.1 hc12
      refine Go.condT (btT rfl hc12) ?_
      refine Go.skip ?_
      refine Go.seq ?_
      refine Go.block ?_
      refine Go.draw mixed ?_
      refine plan_pure (i := 0) (d := 16) (S2 := 1) (v := .pointer p0) rfl (by decide +kernel) rfl (q_move e6_0) ?_
      obtain ⟨a13, ha14, h⟩ := h
      refine plan_pure (i := 1) (d := 17) (S2 := 3) (v := .pointer (some a13)) rfl (by decide +kernel) rfl (q_nilCheck (ptn rfl ha14)) ?_
      refine plan_pure (i := 2) (d := 18) (S2 := 7) (v := .pointer (some (a13.add 0))) rfl (by decide +kernel) rfl (q_fieldAddr foff64_0 rfl) ?_
      obtain ⟨x15, hx16, h⟩ := h
      refine plan_load (i := 3) (d := 19) (S2 := 15) (v := Sl.v x15) rfl (by decide +kernel) rfl (q_load scalar41 rfl hx16) ?_
      refine plan_pure (i := 4) (d := 20) (S2 := 31) (v := .pointer p0) rfl (by decide +kernel) rfl (q_move e6_0) ?_
      obtain ⟨a17, ha18, h⟩ := h
      refine plan_pure (i := 5) (d := 21) (S2 := 63) (v := .pointer (some a17)) rfl (by decide +kernel) rfl (q_nilCheck (ptn rfl ha18)) ?_
      refine plan_pure (i := 6) (d := 22) (S2 := 127) (v := .pointer (some (a17.add 1))) rfl (by decide +kernel) rfl (q_fieldAddr foff64_1 rfl) ?_
      obtain ⟨x19, hx20, h⟩ := h
      refine plan_load (i := 7) (d := 23) (S2 := 255) (v := Sl.v x19) rfl (by decide +kernel) rfl (q_load scalar61 rfl hx20) ?_
      refine plan_pure (i := 8) (d := 24) (S2 := 511) (v := .int .i64 s4) rfl (by decide +kernel) rfl (q_move e6_3) ?_
      obtain ⟨a21, ha22, h⟩ := h
      refine plan_pure (i := 9) (d := 25) (S2 := 1023) (v := .pointer (some a21)) rfl (by decide +kernel) rfl (q_idx slice61 ha22 rfl rfl) ?_
      refine plan_pure (i := 10) (d := 26) (S2 := 2047) (v := .pointer (some (a21.add 0))) rfl (by decide +kernel) rfl (q_fieldAddr foff80_0 rfl) ?_
      obtain ⟨x23, hx24, h⟩ := h
      refine plan_load (i := 11) (d := 27) (S2 := 4095) (v := .int .i64 x23) rfl (by decide +kernel) rfl (q_load scalar3 rfl hx24) ?_
      refine plan_pure (i := 12) (d := 28) (S2 := 8191) (v := .pointer p0) rfl (by decide +kernel) rfl (q_move e6_0) ?_
      obtain ⟨a25, ha26, h⟩ := h
      refine plan_pure (i := 13) (d := 29) (S2 := 16383) (v := .pointer (some a25)) rfl (by decide +kernel) rfl (q_nilCheck (ptn rfl ha26)) ?_
      refine plan_pure (i := 14) (d := 30) (S2 := 32767) (v := .pointer (some (a25.add 1))) rfl (by decide +kernel) rfl (q_fieldAddr foff64_1 rfl) ?_
      obtain ⟨x27, hx28, h⟩ := h
      refine plan_load (i := 15) (d := 31) (S2 := 65535) (v := Sl.v x27) rfl (by decide +kernel) rfl (q_load scalar61 rfl hx28) ?_
      refine plan_pure (i := 16) (d := 32) (S2 := 131071) (v := .int .i64 s4) rfl (by decide +kernel) rfl (q_move e6_3) ?_
      obtain ⟨a29, ha30, h⟩ := h
      refine plan_pure (i := 17) (d := 33) (S2 := 262143) (v := .pointer (some a29)) rfl (by decide +kernel) rfl (q_idx slice61 ha30 rfl rfl) ?_
      refine plan_pure (i := 18) (d := 34) (S2 := 524287) (v := .pointer (some (a29.add 1))) rfl (by decide +kernel) rfl (q_fieldAddr foff80_1 rfl) ?_
      obtain ⟨x31, hx32, h⟩ := h
      refine plan_load (i := 19) (d := 35) (S2 := 1048575) (v := Sl.v x31) rfl (by decide +kernel) rfl (q_load scalar28 rfl hx32) ?_
      obtain ⟨a33, ha34, h⟩ := h
      refine plan_pure (i := 20) (d := 36) (S2 := 2097151) (v := .pointer (some a33)) rfl (by decide +kernel) rfl (q_idx slice41 ha34 rfl rfl) ?_
      refine plan_one (j := 21) (S2 := 4194303) (by decide +kernel) rfl (by decide) rfl ?_
      obtain ⟨q36b, q36o, q36c, q36e, hq36a, hq36b, hq36l, hq36v, h⟩ := h
      refine do_store (vs := [Sl.v x31]) size28 (pta rfl hq36a) rfl rfl rfl hq36v hq36b hq36l ?_
      refine ⟨_, (.inl ⟨⟨[21], by decide +kernel, rfl⟩, .inl ⟨⟨[21], by decide +kernel, rfl⟩, .inl ⟨⟨[21], by decide +kernel, rfl⟩, .inl ⟨⟨[21], by decide +kernel, rfl⟩, .inl ⟨⟨[21], by decide +kernel, rfl⟩, rfl⟩⟩⟩⟩⟩), ?_⟩
      refine plan_done (by decide +kernel) ?_
      refine Go.inBlock ?_
      refine Go.region rfl ?_
      refine GoOps.q (v := .int .i64 s4) rfl rfl (by decide) (q_move e6_3) ?_
      refine GoOps.q (v := .int .i64 (IntKind.wrap .i64 (s4 + 1))) rfl rfl (by decide) (q_add rfl rfl) ?_
      refine GoOps.q (v := .int .i64 (IntKind.wrap .i64 (s4 + 1))) rfl rfl (by decide) (q_assign rfl) ?_
      refine GoOps.nil ?_
      exact hagain5 _ _ _ h ⟨e6_0, rfl⟩
    · have h := h.2 hc12
      refine Go.condF (btF rfl hc12) ?_
      refine Go.exit rfl ?_
      refine Go.seq ?_
      refine Go.region rfl ?_
      refine GoOps.q (v := .pointer p0) rfl rfl (by decide) (q_move e6_0) ?_
      obtain ⟨a37, ha38, h⟩ := h
      refine GoOps.q (v := .pointer (some a37)) rfl rfl (by decide) (q_nilCheck (ptn rfl ha38)) ?_
      refine GoOps.q (v := .pointer (some (a37.add 1))) rfl rfl (by decide) (q_fieldAddr foff64_1 rfl) ?_
      obtain ⟨q40b, q40o, q40c, q40e, hq40a, hq40b, hq40l, hq40v, h⟩ := h
      refine op_none rfl rfl (do_store (vs := [Sl.v Sl.nil]) size61 (pta rfl hq40a) rfl rfl rfl hq40v hq40b hq40l ?_) 
      refine GoOps.nil ?_
      refine Go.seq ?_
      refine Go.region rfl ?_
      refine GoOps.q (v := .int .i64 0) rfl rfl (by decide) (q_assign rfl) ?_
      refine GoOps.nil ?_
      exact Go.ret ⟨.inl rfl, _, _, DOk.nil, (resOk1 Try.results26 rfl), ⟨_, rfl, h⟩⟩

/-- (*keelson.vdisk.Disk).Sectors -/
def vdisk_Disk_Sectors (p0 : Option Addr) (H : PH) (Q : Int → PH → Prop) : Prop :=
  mIf (Option.isNone p0)
  (Q 0 H)
  (mNil p0 fun a2 =>
  mLd Sl.v H (a2.add 1) fun x4 =>
  Q (x4.len : Int) H)

set_option maxRecDepth 20000 in
set_option maxHeartbeats 1000000 in
theorem vdisk_Disk_Sectors_s (p0 : Option Addr) (H : PH) (Q : Int → PH → Prop) (h : vdisk_Disk_Sectors p0 H Q) :
    CallsH Try.prog 42 #[.pointer p0] H (fun v H' => ∃ (r0 : Int), v = .int .i64 r0 ∧ Q r0 H') := by
  unfold vdisk_Disk_Sectors at h
  refine callsH_of_go Try.func42 rfl Try.ntmps42 (Nat.le_of_ble_eq_true rfl) ?_
  refine Go.seq ?_
  refine Go.region rfl ?_
  refine GoOps.q (v := .int .i64 0) rfl rfl (by decide) (q_assign rfl) ?_
  refine GoOps.nil ?_
  refine Go.seq ?_
  refine Go.seq ?_
  refine Go.region rfl ?_
  refine GoOps.q (v := .pointer p0) rfl rfl (by decide) (q_move rfl) ?_
  refine GoOps.q (v := .bool (Option.isNone p0)) rfl rfl (by decide) (q_eqlPn Try.underlying23 rfl rfl) ?_
  refine GoOps.nil ?_
  rcases bor (Option.isNone p0) with hc1 | hc1
  · have h := h.1 hc1
    refine Go.condT (btT rfl hc1) ?_
    refine Go.seq ?_
    refine Go.region rfl ?_
    refine GoOps.q (v := .int .i64 0) rfl rfl (by decide) (q_assign rfl) ?_
    refine GoOps.nil ?_
    exact Go.ret ⟨.inl rfl, _, _, DOk.nil, (resOk1 Try.results42 rfl), ⟨_, rfl, h⟩⟩
  · have h := h.2 hc1
    refine Go.condF (btF rfl hc1) ?_
    refine Go.skip ?_
    refine Go.seq ?_
    refine Go.region rfl ?_
    refine GoOps.q (v := .pointer p0) rfl rfl (by decide) (q_move rfl) ?_
    obtain ⟨a2, ha3, h⟩ := h
    refine GoOps.q (v := .pointer (some a2)) rfl rfl (by decide) (q_nilCheck (ptn rfl ha3)) ?_
    refine GoOps.q (v := .pointer (some (a2.add 1))) rfl rfl (by decide) (q_fieldAddr foff69_1 rfl) ?_
    obtain ⟨x4, hx5, h⟩ := h
    refine GoOps.q (v := Sl.v x4) rfl rfl (by decide) (q_load scalar66 rfl hx5) ?_
    refine GoOps.q (v := .int .i64 (x4.len : Int)) rfl rfl (by decide) (q_len Try.underlying66 rfl (ls1 rfl)) ?_
    refine GoOps.q (v := .int .i64 (x4.len : Int)) rfl rfl (by decide) (q_assign rfl) ?_
    refine GoOps.nil ?_
    exact Go.ret ⟨.inl rfl, _, _, DOk.nil, (resOk1 Try.results42 rfl), ⟨_, rfl, h⟩⟩

/-- (*keelson.keelsonref1.Disk).Read -/
def keelsonref1_Disk_Read (p0 : Option Addr) (p1 : Int) (H : PH) (Q : Sl → Int → PH → Prop) : Prop :=
  mNil p0 fun a1 =>
  mLd Sl.v H (a1.add 0) fun x3 =>
  keelsonref1_Within p1 0 (IntKind.wrap .i64 ((x3.len : Int) - 1)) H fun y6 H5 =>
  mIf (!y6)
  (Q Sl.nil 1 H5)
  (mNil p0 fun a8 =>
  mLd .bool H5 (a8.add 4) fun x10 =>
  mIf x10
  (Q Sl.nil 3 H5)
  (mNil p0 fun a13 =>
  mLd Sl.v H5 (a13.add 2) fun x15 =>
  mIdx x15 1 p1 fun a17 =>
  mLd .bool H5 a17 fun x19 =>
  mIf x19
  (Q Sl.nil 4 H5)
  (mNil p0 fun a22 =>
  mLd Sl.v H5 (a22.add 0) fun x24 =>
  mIdx x24 1 p1 fun a26 =>
  mLd Sl.v H5 a26 fun x28 =>
  mLoop (fun (s30 : Sl × Int) (H33 : PH) (again31 : (Sl × Int) → PH → Prop) =>
  mNil p0 fun a34 =>
  mLd Sl.v H33 (a34.add 1) fun x36 =>
  mIf (decide (s30.2 < (x36.len : Int)))
  (mJoin (fun (s39 : Sl) (H41 : PH) =>
  again31 (s39, IntKind.wrap .i64 (s30.2 + 1)) H41)
  fun j40 =>
  mNil p0 fun a43 =>
  mLd Sl.v H33 (a43.add 1) fun x45 =>
  mIdx x45 2 s30.2 fun a47 =>
  mLd (.int .i64) H33 (a47.add 0) fun x49 =>
  mIf (x49 == p1)
  (mNil p0 fun a52 =>
  mLd Sl.v H33 (a52.add 1) fun x54 =>
  mIdx x54 2 s30.2 fun a56 =>
  mLd Sl.v H33 (a56.add 1) fun x58 =>
  j40 x58 H33)
  (j40 s30.1 H33))
  (keelsonref1_Part s30.1 0 (s30.1.len : Int) H33 fun y61 H60 =>
  Q y61 0 H60))
  (x28, 0) H5)))

set_option maxRecDepth 20000 in
set_option maxHeartbeats 1000000 in
theorem keelsonref1_Disk_Read_s (p0 : Option Addr) (p1 : Int) (H : PH) (Q : Sl → Int → PH → Prop) (h : keelsonref1_Disk_Read p0 p1 H Q) :
    CallsH Try.prog 29 #[.pointer p0, .int .i64 p1] H (fun v H' => ∃ (r0 : Sl) (r1 : Int), v = .tuple #[Sl.v r0, .int .i64 r1] ∧ Q r0 r1 H') := by
  unfold keelsonref1_Disk_Read at h
  refine callsH_of_go Try.func29 rfl Try.ntmps29 (Nat.le_of_ble_eq_true rfl) ?_
  refine Go.seq ?_
  refine Go.region rfl ?_
  refine GoOps.q (v := Sl.v Sl.nil) rfl rfl (by decide) (q_assign rfl) ?_
  refine GoOps.q (v := .int .i64 0) rfl rfl (by decide) (q_assign rfl) ?_
  refine GoOps.nil ?_
  refine Go.seq ?_
  refine Go.seq ?_
  refine Go.region rfl ?_
  refine GoOps.q (v := .int .i64 p1) rfl rfl (by decide) (q_move rfl) ?_
  refine GoOps.q (v := .pointer p0) rfl rfl (by decide) (q_move rfl) ?_
  obtain ⟨a1, ha2, h⟩ := h
  refine GoOps.q (v := .pointer (some a1)) rfl rfl (by decide) (q_nilCheck (ptn rfl ha2)) ?_
  refine GoOps.q (v := .pointer (some (a1.add 0))) rfl rfl (by decide) (q_fieldAddr foff64_0 rfl) ?_
  obtain ⟨x3, hx4, h⟩ := h
  refine GoOps.q (v := Sl.v x3) rfl rfl (by decide) (q_load scalar41 rfl hx4) ?_
  refine GoOps.q (v := .int .i64 (x3.len : Int)) rfl rfl (by decide) (q_len Try.underlying41 rfl (ls1 rfl)) ?_
  refine GoOps.q (v := .int .i64 (IntKind.wrap .i64 ((x3.len : Int) - 1))) rfl rfl (by decide) (q_sub rfl rfl) ?_
  refine call_dst rfl (by decide) body39 (keelsonref1_Within_s _ _ _ _ _ h) rfl ?_
  rintro _ H5 ⟨y6, rfl, h⟩
  refine GoOps.q (v := .bool (!y6)) rfl rfl (by decide) (q_not rfl) ?_
  refine GoOps.nil ?_
  rcases bor (!y6) with hc7 | hc7
  · have h := h.1 hc7
    refine Go.condT (btT rfl hc7) ?_
    refine Go.seq ?_
    refine Go.region rfl ?_
    refine GoOps.q (v := Sl.v Sl.nil) rfl rfl (by decide) (q_assign rfl) ?_
    refine GoOps.q (v := .int .i64 1) rfl rfl (by decide) (q_assign rfl) ?_
    refine GoOps.nil ?_
    exact Go.ret ⟨.inl rfl, _, _, DOk.nil, (resOk2 Try.results29 rfl rfl), ⟨_, _, rfl, h⟩⟩
  · have h := h.2 hc7
    refine Go.condF (btF rfl hc7) ?_
    refine Go.skip ?_
    refine Go.seq ?_
    refine Go.seq ?_
    refine Go.region rfl ?_
    refine GoOps.q (v := .pointer p0) rfl rfl (by decide) (q_move rfl) ?_
    obtain ⟨a8, ha9, h⟩ := h
    refine GoOps.q (v := .pointer (some a8)) rfl rfl (by decide) (q_nilCheck (ptn rfl ha9)) ?_
    refine GoOps.q (v := .pointer (some (a8.add 4))) rfl rfl (by decide) (q_fieldAddr foff64_4 rfl) ?_
    obtain ⟨x10, hx11, h⟩ := h
    refine GoOps.q (v := .bool x10) rfl rfl (by decide) (q_load scalar4 rfl hx11) ?_
    refine GoOps.nil ?_
    rcases bor x10 with hc12 | hc12
    · have h := h.1 hc12
      refine Go.condT (btT rfl hc12) ?_
      refine Go.seq ?_
      refine Go.region rfl ?_
      refine GoOps.q (v := Sl.v Sl.nil) rfl rfl (by decide) (q_assign rfl) ?_
      refine GoOps.q (v := .int .i64 3) rfl rfl (by decide) (q_assign rfl) ?_
      refine GoOps.nil ?_
      exact Go.ret ⟨.inl rfl, _, _, DOk.nil, (resOk2 Try.results29 rfl rfl), ⟨_, _, rfl, h⟩⟩
    · have h := h.2 hc12
      refine Go.condF (btF rfl hc12) ?_
      refine Go.skip ?_
      refine Go.seq ?_
      refine Go.seq ?_
      refine Go.region rfl ?_
      refine GoOps.q (v := .pointer p0) rfl rfl (by decide) (q_move rfl) ?_
      obtain ⟨a13, ha14, h⟩ := h
      refine GoOps.q (v := .pointer (some a13)) rfl rfl (by decide) (q_nilCheck (ptn rfl ha14)) ?_
      refine GoOps.q (v := .pointer (some (a13.add 2))) rfl rfl (by decide) (q_fieldAddr foff64_2 rfl) ?_
      obtain ⟨x15, hx16, h⟩ := h
      refine GoOps.q (v := Sl.v x15) rfl rfl (by decide) (q_load scalar62 rfl hx16) ?_
      refine GoOps.q (v := .int .i64 p1) rfl rfl (by decide) (q_move rfl) ?_
      obtain ⟨a17, ha18, h⟩ := h
      refine GoOps.q (v := .pointer (some a17)) rfl rfl (by decide) (q_idx slice62 ha18 rfl rfl) ?_
      obtain ⟨x19, hx20, h⟩ := h
      refine GoOps.q (v := .bool x19) rfl rfl (by decide) (q_load scalar4 rfl hx20) ?_
      refine GoOps.nil ?_
      rcases bor x19 with hc21 | hc21
      · have h := h.1 hc21
        refine Go.condT (btT rfl hc21) ?_
        refine Go.seq ?_
        refine Go.region rfl ?_
        refine GoOps.q (v := Sl.v Sl.nil) rfl rfl (by decide) (q_assign rfl) ?_
        refine GoOps.q (v := .int .i64 4) rfl rfl (by decide) (q_assign rfl) ?_
        refine GoOps.nil ?_
        exact Go.ret ⟨.inl rfl, _, _, DOk.nil, (resOk2 Try.results29 rfl rfl), ⟨_, _, rfl, h⟩⟩
      · have h := h.2 hc21
        refine Go.condF (btF rfl hc21) ?_
        refine Go.skip ?_
        refine Go.seq ?_
        refine Go.region rfl ?_
        refine GoOps.q (v := .pointer p0) rfl rfl (by decide) (q_move rfl) ?_
        obtain ⟨a22, ha23, h⟩ := h
        refine GoOps.q (v := .pointer (some a22)) rfl rfl (by decide) (q_nilCheck (ptn rfl ha23)) ?_
        refine GoOps.q (v := .pointer (some (a22.add 0))) rfl rfl (by decide) (q_fieldAddr foff64_0 rfl) ?_
        obtain ⟨x24, hx25, h⟩ := h
        refine GoOps.q (v := Sl.v x24) rfl rfl (by decide) (q_load scalar41 rfl hx25) ?_
        refine GoOps.q (v := .int .i64 p1) rfl rfl (by decide) (q_move rfl) ?_
        obtain ⟨a26, ha27, h⟩ := h
        refine GoOps.q (v := .pointer (some a26)) rfl rfl (by decide) (q_idx slice41 ha27 rfl rfl) ?_
        obtain ⟨x28, hx29, h⟩ := h
        refine GoOps.q (v := Sl.v x28) rfl rfl (by decide) (q_load scalar28 rfl hx29) ?_
        refine GoOps.q (v := Sl.v x28) rfl rfl (by decide) (q_assign rfl) ?_
        refine GoOps.nil ?_
        refine Go.seq ?_
        refine Go.seq ?_
        refine Go.region rfl ?_
        refine GoOps.q (v := .int .i64 0) rfl rfl (by decide) (q_assign rfl) ?_
        refine GoOps.nil ?_
        refine Go.block ?_
        refine loop_go (fun ρ (s30 : Sl × Int) => ρ 0 = .pointer p0 ∧ ρ 1 = .int .i64 p1 ∧ ρ 6 = Sl.v s30.1 ∧ ρ 7 = .int .i64 s30.2) h ⟨rfl, rfl, rfl, rfl⟩ ?_
        clear h
        intro ρ s30 H33 again31 hE h hagain31
        obtain ⟨e32_0, e32_1, e32_6, e32_7⟩ := hE
        refine Go.seq ?_
        refine Go.seq ?_
        refine Go.region rfl ?_
        refine GoOps.q (v := .int .i64 s30.2) rfl rfl (by decide) (q_move e32_7) ?_
        refine GoOps.q (v := .pointer p0) rfl rfl (by decide) (q_move e32_0) ?_
        obtain ⟨a34, ha35, h⟩ := h
        refine GoOps.q (v := .pointer (some a34)) rfl rfl (by decide) (q_nilCheck (ptn rfl ha35)) ?_
        refine GoOps.q (v := .pointer (some (a34.add 1))) rfl rfl (by decide) (q_fieldAddr foff64_1 rfl) ?_
        obtain ⟨x36, hx37, h⟩ := h
        refine GoOps.q (v := Sl.v x36) rfl rfl (by decide) (q_load scalar61 rfl hx37) ?_
        refine GoOps.q (v := .int .i64 (x36.len : Int)) rfl rfl (by decide) (q_len Try.underlying61 rfl (ls1 rfl)) ?_
        refine GoOps.q (v := .bool (decide (s30.2 < (x36.len : Int)))) rfl rfl (by decide) (q_lss rfl rfl) ?_
        refine GoOps.nil ?_
        rcases bor (decide (s30.2 < (x36.len : Int))) with hc38 | hc38
        · have h := h.1 hc38
          refine Go.condT (btT rfl hc38) ?_
          refine Go.skip ?_
          refine Go.seq ?_
          refine join_go 1 (fun ρ (s39 : Sl) => ρ 0 = .pointer p0 ∧ ρ 1 = .int .i64 p1 ∧ ρ 6 = Sl.v s39 ∧ ρ 7 = .int .i64 s30.2) h ?_ ?_ <;> clear h
          · intro s39 H41 ρ h hE
            obtain ⟨e42_0, e42_1, e42_6, e42_7⟩ := hE
            refine Go.region rfl ?_
            refine GoOps.q (v := .int .i64 s30.2) rfl rfl (by decide) (q_move e42_7) ?_
            refine GoOps.q (v := .int .i64 (IntKind.wrap .i64 (s30.2 + 1))) rfl rfl (by decide) (q_add rfl rfl) ?_
            refine GoOps.q (v := .int .i64 (IntKind.wrap .i64 (s30.2 + 1))) rfl rfl (by decide) (q_assign rfl) ?_
            refine GoOps.nil ?_
            exact hagain31 _ _ _ h ⟨e42_0, e42_1, e42_6, rfl⟩
          · intro j40 hj40 h
            refine Go.block ?_
            refine Go.seq ?_
            refine Go.region rfl ?_
            refine GoOps.q (v := .pointer p0) rfl rfl (by decide) (q_move e32_0) ?_
            obtain ⟨a43, ha44, h⟩ := h
            refine GoOps.q (v := .pointer (some a43)) rfl rfl (by decide) (q_nilCheck (ptn rfl ha44)) ?_
            refine GoOps.q (v := .pointer (some (a43.add 1))) rfl rfl (by decide) (q_fieldAddr foff64_1 rfl) ?_
            obtain ⟨x45, hx46, h⟩ := h
            refine GoOps.q (v := Sl.v x45) rfl rfl (by decide) (q_load scalar61 rfl hx46) ?_
            refine GoOps.q (v := .int .i64 s30.2) rfl rfl (by decide) (q_move e32_7) ?_
            obtain ⟨a47, ha48, h⟩ := h
            refine GoOps.q (v := .pointer (some a47)) rfl rfl (by decide) (q_idx slice61 ha48 rfl rfl) ?_
            refine GoOps.q (v := .pointer (some (a47.add 0))) rfl rfl (by decide) (q_fieldAddr foff80_0 rfl) ?_
            obtain ⟨x49, hx50, h⟩ := h
            refine GoOps.q (v := .int .i64 x49) rfl rfl (by decide) (q_load scalar3 rfl hx50) ?_
            refine GoOps.q (v := .int .i64 p1) rfl rfl (by decide) (q_move e32_1) ?_
            refine GoOps.q (v := .bool (x49 == p1)) rfl rfl (by decide) (q_eql rfl rfl) ?_
            refine GoOps.nil ?_
            rcases bor (x49 == p1) with hc51 | hc51
            · have h := h.1 hc51
              refine Go.condT (btT rfl hc51) ?_
              refine Go.region rfl ?_
              refine GoOps.q (v := .pointer p0) rfl rfl (by decide) (q_move e32_0) ?_
              obtain ⟨a52, ha53, h⟩ := h
              refine GoOps.q (v := .pointer (some a52)) rfl rfl (by decide) (q_nilCheck (ptn rfl ha53)) ?_
              refine GoOps.q (v := .pointer (some (a52.add 1))) rfl rfl (by decide) (q_fieldAddr foff64_1 rfl) ?_
              obtain ⟨x54, hx55, h⟩ := h
              refine GoOps.q (v := Sl.v x54) rfl rfl (by decide) (q_load scalar61 rfl hx55) ?_
              refine GoOps.q (v := .int .i64 s30.2) rfl rfl (by decide) (q_move e32_7) ?_
              obtain ⟨a56, ha57, h⟩ := h
              refine GoOps.q (v := .pointer (some a56)) rfl rfl (by decide) (q_idx slice61 ha57 rfl rfl) ?_
              refine GoOps.q (v := .pointer (some (a56.add 1))) rfl rfl (by decide) (q_fieldAddr foff80_1 rfl) ?_
              obtain ⟨x58, hx59, h⟩ := h
              refine GoOps.q (v := Sl.v x58) rfl rfl (by decide) (q_load scalar28 rfl hx59) ?_
              refine GoOps.q (v := Sl.v x58) rfl rfl (by decide) (q_assign rfl) ?_
              refine GoOps.nil ?_
              refine Go.inBlock ?_
              exact hj40 _ _ _ h ⟨e32_0, e32_1, rfl, e32_7⟩
            · have h := h.2 hc51
              refine Go.condF (btF rfl hc51) ?_
              refine Go.skip ?_
              refine Go.inBlock ?_
              exact hj40 _ _ _ h ⟨e32_0, e32_1, e32_6, e32_7⟩
        · have h := h.2 hc38
          refine Go.condF (btF rfl hc38) ?_
          refine Go.exit rfl ?_
          refine Go.seq ?_
          refine Go.region rfl ?_
          refine GoOps.q (v := Sl.v s30.1) rfl rfl (by decide) (q_move e32_6) ?_
          refine GoOps.q (v := Sl.v s30.1) rfl rfl (by decide) (q_move e32_6) ?_
          refine GoOps.q (v := .int .i64 (s30.1.len : Int)) rfl rfl (by decide) (q_len Try.underlying28 rfl (ls1 rfl)) ?_
          refine call_dst rfl (by decide) body41 (keelsonref1_Part_s _ _ _ _ _ h) rfl ?_
          rintro _ H60 ⟨y61, rfl, h⟩
          refine GoOps.q (v := Sl.v y61) rfl rfl (by decide) (q_assign rfl) ?_
          refine GoOps.q (v := .int .i64 0) rfl rfl (by decide) (q_assign rfl) ?_
          refine GoOps.nil ?_
          exact Go.ret ⟨.inl rfl, _, _, DOk.nil, (resOk2 Try.results29 rfl rfl), ⟨_, _, rfl, h⟩⟩

/-- keelson.keelsonkit.Same -/
def keelsonkit_Same (p0 : Option Addr) (p1 : Option Addr) (H : PH) (Q : Bool → PH → Prop) : Prop :=
  mJoin (fun (s2 : Bool) (H4 : PH) =>
  mJoin (fun (s7 : Bool) (H9 : PH) =>
  mJoin (fun (s12 : Bool) (H14 : PH) =>
  mJoin (fun (s17 : Bool) (H19 : PH) =>
  mJoin (fun (s22 : Bool) (H24 : PH) =>
  mIf s22
  (Q false H24)
  (mLoop (fun (s27 : Int) (H30 : PH) (again28 : Int → PH → Prop) =>
  mNil p1 fun a31 =>
  mLd Sl.v H30 (a31.add 0) fun x33 =>
  mIf (decide (s27 < (x33.len : Int)))
  (vdisk_Disk_Read p0 s27 H30 fun y37 y38 H36 =>
  keelsonref1_Disk_Read p1 s27 H36 fun y40 y41 H39 =>
  mJoin (fun (s43 : Bool) (H45 : PH) =>
  mIf s43
  (Q false H45)
  (again28 (IntKind.wrap .i64 (s27 + 1)) H45))
  fun j44 =>
  mIf (y38 != y41)
  (j44 true H39)
  (keelsonref1_Equal y37 y40 H39 fun y49 H48 =>
  j44 (!y49) H48))
  (Q true H30))
  0 H24))
  fun j23 =>
  mIf s17
  (j23 true H19)
  (mNil p1 fun a50 =>
  mLd .bool H19 (a50.add 4) fun x52 =>
  vdisk_Disk_Off p0 H19 fun y55 H54 =>
  mSame H54 (a50.add 4) (.bool x52) <|
  j23 (y55 != x52) H54))
  fun j18 =>
  mIf s12
  (j18 true H14)
  (mNil p1 fun a57 =>
  mLd (.int .i64) H14 (a57.add 5) fun x59 =>
  vdisk_Disk_Acts p0 H14 fun y62 H61 =>
  mSame H61 (a57.add 5) (.int .i64 x59) <|
  j18 (y62 != x59) H61))
  fun j13 =>
  mIf s7
  (j13 true H9)
  (mNil p1 fun a64 =>
  mLd Sl.v H9 (a64.add 1) fun x66 =>
  vdisk_Disk_Held p0 H9 fun y69 H68 =>
  mSame H68 (a64.add 1) (Sl.v x66) <|
  j13 (y69 != (x66.len : Int)) H68))
  fun j8 =>
  mIf s2
  (j8 true H4)
  (mNil p1 fun a71 =>
  mLd Sl.v H4 (a71.add 0) fun x73 =>
  vdisk_Disk_Sectors p0 H4 fun y76 H75 =>
  mSame H75 (a71.add 0) (Sl.v x73) <|
  j8 (y76 != (x73.len : Int)) H75))
  fun j3 =>
  mIf (Option.isNone p0)
  (j3 true H)
  (j3 (Option.isNone p1) H)

set_option maxRecDepth 20000 in
set_option maxHeartbeats 1000000 in
theorem keelsonkit_Same_s (p0 : Option Addr) (p1 : Option Addr) (H : PH) (Q : Bool → PH → Prop) (h : keelsonkit_Same p0 p1 H Q) :
    CallsH Try.prog 27 #[.pointer p0, .pointer p1] H (fun v H' => ∃ (r0 : Bool), v = .bool r0 ∧ Q r0 H') := by
  unfold keelsonkit_Same at h
  refine callsH_of_go Try.func27 rfl Try.ntmps27 (Nat.le_of_ble_eq_true rfl) ?_
  refine Go.seq ?_
  refine Go.region rfl ?_
  refine GoOps.q (v := .bool false) rfl rfl (by decide) (q_assign rfl) ?_
  refine GoOps.nil ?_
  refine Go.seq ?_
  refine Go.seq ?_
  refine Go.draw mixed ?_
  refine plan_pure (i := 0) (d := 10) (S2 := 1) (v := .pointer p0) rfl (by decide +kernel) rfl (q_move rfl) ?_
  refine plan_pure (i := 1) (d := 11) (S2 := 3) (v := .bool (Option.isNone p0)) rfl (by decide +kernel) rfl (q_eqlPn Try.underlying23 rfl rfl) ?_
  refine plan_pure (i := 2) (d := 12) (S2 := 7) (v := .bool (Option.isNone p0)) rfl (by decide +kernel) rfl (q_move rfl) ?_
  refine join_plan 63 [] (fun ρ (s2 : Bool) => ρ 0 = .pointer p0 ∧ ρ 1 = .pointer p1 ∧ ρ 15 = .bool s2) h ?_ ?_ <;> clear h
  · intro s2 H4 ρ h hE
    obtain ⟨e5_0, e5_1, e5_15⟩ := hE
    refine plan_pure (i := 6) (d := 16) (S2 := 127) (v := .bool s2) rfl (by decide +kernel) rfl (q_move e5_15) ?_
    refine join_plan 65535 [12] (fun ρ (s7 : Bool) => ρ 0 = .pointer p0 ∧ ρ 1 = .pointer p1 ∧ ρ 25 = .bool s7) h ?_ ?_ <;> clear h
    · intro s7 H9 ρ h hE
      obtain ⟨e10_0, e10_1, e10_25⟩ := hE
      refine plan_pure (i := 16) (d := 26) (S2 := 131071) (v := .bool s7) rfl (by decide +kernel) rfl (q_move e10_25) ?_
      refine join_plan 67108863 [22, 12] (fun ρ (s12 : Bool) => ρ 0 = .pointer p0 ∧ ρ 1 = .pointer p1 ∧ ρ 35 = .bool s12) h ?_ ?_ <;> clear h
      · intro s12 H14 ρ h hE
        obtain ⟨e15_0, e15_1, e15_35⟩ := hE
        refine plan_pure (i := 26) (d := 36) (S2 := 134217727) (v := .bool s12) rfl (by decide +kernel) rfl (q_move e15_35) ?_
        refine join_plan 34359738367 [32, 22, 12] (fun ρ (s17 : Bool) => ρ 0 = .pointer p0 ∧ ρ 1 = .pointer p1 ∧ ρ 44 = .bool s17) h ?_ ?_ <;> clear h
        · intro s17 H19 ρ h hE
          obtain ⟨e20_0, e20_1, e20_44⟩ := hE
          refine plan_pure (i := 35) (d := 45) (S2 := 68719476735) (v := .bool s17) rfl (by decide +kernel) rfl (q_move e20_44) ?_
          refine join_plan 17592186044415 [41, 32, 22, 12] (fun ρ (s22 : Bool) => ρ 0 = .pointer p0 ∧ ρ 1 = .pointer p1 ∧ ρ 53 = .bool s22) h ?_ ?_ <;> clear h
          · intro s22 H24 ρ h hE
            obtain ⟨e25_0, e25_1, e25_53⟩ := hE
            refine plan_done (by decide +kernel) ?_
            rcases bor s22 with hc26 | hc26
            · have h := h.1 hc26
              refine Go.condT (btT e25_53 hc26) ?_
              refine Go.seq ?_
              refine Go.region rfl ?_
              refine GoOps.q (v := .bool false) rfl rfl (by decide) (q_assign rfl) ?_
              refine GoOps.nil ?_
              exact Go.ret ⟨.inl rfl, _, _, DOk.nil, (resOk1 Try.results27 rfl), ⟨_, rfl, h⟩⟩
            · have h := h.2 hc26
              refine Go.condF (btF e25_53 hc26) ?_
              refine Go.skip ?_
              refine Go.seq ?_
              refine Go.seq ?_
              refine Go.region rfl ?_
              refine GoOps.q (v := .int .i64 0) rfl rfl (by decide) (q_assign rfl) ?_
              refine GoOps.nil ?_
              refine Go.block ?_
              refine loop_go (fun ρ (s27 : Int) => ρ 0 = .pointer p0 ∧ ρ 1 = .pointer p1 ∧ ρ 5 = .int .i64 s27) h ⟨e25_0, e25_1, rfl⟩ ?_
              clear h
              intro ρ s27 H30 again28 hE h hagain28
              obtain ⟨e29_0, e29_1, e29_5⟩ := hE
              refine Go.seq ?_
              refine Go.seq ?_
              refine Go.region rfl ?_
              refine GoOps.q (v := .int .i64 s27) rfl rfl (by decide) (q_move e29_5) ?_
              refine GoOps.q (v := .pointer p1) rfl rfl (by decide) (q_move e29_1) ?_
              obtain ⟨a31, ha32, h⟩ := h
              refine GoOps.q (v := .pointer (some a31)) rfl rfl (by decide) (q_nilCheck (ptn rfl ha32)) ?_
              refine GoOps.q (v := .pointer (some (a31.add 0))) rfl rfl (by decide) (q_fieldAddr foff64_0 rfl) ?_
              obtain ⟨x33, hx34, h⟩ := h
              refine GoOps.q (v := Sl.v x33) rfl rfl (by decide) (q_load scalar41 rfl hx34) ?_
              refine GoOps.q (v := .int .i64 (x33.len : Int)) rfl rfl (by decide) (q_len Try.underlying41 rfl (ls1 rfl)) ?_
              refine GoOps.q (v := .bool (decide (s27 < (x33.len : Int)))) rfl rfl (by decide) (q_lss rfl rfl) ?_
              refine GoOps.nil ?_
              rcases bor (decide (s27 < (x33.len : Int))) with hc35 | hc35
              · have h := h.1 hc35
                refine Go.condT (btT rfl hc35) ?_
                refine Go.skip ?_
                refine Go.seq ?_
                refine Go.block ?_
                refine Go.seq ?_
                refine Go.region rfl ?_
                refine GoOps.q (v := .pointer p0) rfl rfl (by decide) (q_move e29_0) ?_
                refine GoOps.q (v := .int .i64 s27) rfl rfl (by decide) (q_move e29_5) ?_
                refine call_dst rfl (by decide) body14 (vdisk_Disk_Read_s _ _ _ _ h) rfl ?_
                rintro _ H36 ⟨y37, y38, rfl, h⟩
                refine GoOps.q (v := .tuple #[Sl.v y37, .int .i64 y38]) rfl rfl (by decide) (q_move rfl) ?_
                refine GoOps.q (v := Sl.v y37) rfl rfl (by decide) (q_extract rfl rfl) ?_
                refine GoOps.q (v := .int .i64 y38) rfl rfl (by decide) (q_extract rfl rfl) ?_
                refine GoOps.q (v := Sl.v y37) rfl rfl (by decide) (q_assign rfl) ?_
                refine GoOps.q (v := .int .i64 y38) rfl rfl (by decide) (q_assign rfl) ?_
                refine GoOps.nil ?_
                refine Go.seq ?_
                refine Go.region rfl ?_
                refine GoOps.q (v := .pointer p1) rfl rfl (by decide) (q_move e29_1) ?_
                refine GoOps.q (v := .int .i64 s27) rfl rfl (by decide) (q_move e29_5) ?_
                refine call_dst rfl (by decide) body29 (keelsonref1_Disk_Read_s _ _ _ _ h) rfl ?_
                rintro _ H39 ⟨y40, y41, rfl, h⟩
                refine GoOps.q (v := .tuple #[Sl.v y40, .int .i64 y41]) rfl rfl (by decide) (q_move rfl) ?_
                refine GoOps.q (v := Sl.v y40) rfl rfl (by decide) (q_extract rfl rfl) ?_
                refine GoOps.q (v := .int .i64 y41) rfl rfl (by decide) (q_extract rfl rfl) ?_
                refine GoOps.q (v := Sl.v y40) rfl rfl (by decide) (q_assign rfl) ?_
                refine GoOps.q (v := .int .i64 y41) rfl rfl (by decide) (q_assign rfl) ?_
                refine GoOps.nil ?_
                refine Go.seq ?_
                refine Go.region rfl ?_
                refine GoOps.q (v := .int .i64 y38) rfl rfl (by decide) (q_move rfl) ?_
                refine GoOps.q (v := .int .i64 y41) rfl rfl (by decide) (q_move rfl) ?_
                refine GoOps.q (v := .bool (y38 != y41)) rfl rfl (by decide) (q_neq rfl rfl) ?_
                refine GoOps.q (v := .bool (y38 != y41)) rfl rfl (by decide) (q_move rfl) ?_
                refine join_ops 5 (fun ρ (s43 : Bool) => ρ 0 = .pointer p0 ∧ ρ 1 = .pointer p1 ∧ ρ 5 = .int .i64 s27 ∧ ρ 83 = .bool s43) h ?_ ?_ <;> clear h
                · intro s43 H45 ρ h hE
                  obtain ⟨e46_0, e46_1, e46_5, e46_83⟩ := hE
                  refine GoOps.nil ?_
                  rcases bor s43 with hc47 | hc47
                  · have h := h.1 hc47
                    refine Go.condT (btT e46_83 hc47) ?_
                    refine Go.seq ?_
                    refine Go.region rfl ?_
                    refine GoOps.q (v := .bool false) rfl rfl (by decide) (q_assign rfl) ?_
                    refine GoOps.nil ?_
                    exact Go.ret ⟨.inl rfl, _, _, DOk.nil, (resOk1 Try.results27 rfl), ⟨_, rfl, h⟩⟩
                  · have h := h.2 hc47
                    refine Go.condF (btF e46_83 hc47) ?_
                    refine Go.skip ?_
                    refine Go.inBlock ?_
                    refine Go.region rfl ?_
                    refine GoOps.q (v := .int .i64 s27) rfl rfl (by decide) (q_move e46_5) ?_
                    refine GoOps.q (v := .int .i64 (IntKind.wrap .i64 (s27 + 1))) rfl rfl (by decide) (q_add rfl rfl) ?_
                    refine GoOps.q (v := .int .i64 (IntKind.wrap .i64 (s27 + 1))) rfl rfl (by decide) (q_assign rfl) ?_
                    refine GoOps.nil ?_
                    exact hagain28 _ _ _ h ⟨e46_0, e46_1, rfl⟩
                · intro j44 hj44 h
                  rcases bor (y38 != y41) with hc42 | hc42
                  · have h := h.1 hc42
                    refine no_dst (want_no rfl rfl rfl hc42) rfl (by decide) ?_
                    refine no_dst (want_no rfl rfl rfl hc42) rfl (by decide) ?_
                    refine no_dst (want_no rfl rfl rfl hc42) rfl (by decide) ?_
                    refine no_dst (want_no rfl rfl rfl hc42) rfl (by decide) ?_
                    refine GoOps.q (v := .bool true) rfl rfl (by decide) (q_pickT (btT rfl hc42) rfl) ?_
                    exact hj44 true _ _ h (by exact ⟨e29_0, e29_1, e29_5, rfl⟩)
                  · have h := h.2 hc42
                    refine GoOps.q (v := Sl.v y37) (want_yes rfl rfl rfl hc42) rfl (by decide) (q_move rfl) ?_
                    refine GoOps.q (v := Sl.v y40) (want_yes rfl rfl rfl hc42) rfl (by decide) (q_move rfl) ?_
                    refine call_dst (want_yes rfl rfl rfl hc42) (by decide) body36 (keelsonref1_Equal_s _ _ _ _ h) rfl ?_
                    rintro _ H48 ⟨y49, rfl, h⟩
                    refine GoOps.q (v := .bool (!y49)) (want_yes rfl rfl rfl hc42) rfl (by decide) (q_not rfl) ?_
                    refine GoOps.q (v := .bool (!y49)) rfl rfl (by decide) (q_pickF (btF rfl hc42) rfl) ?_
                    exact hj44 (!y49) _ _ h (by exact ⟨e29_0, e29_1, e29_5, rfl⟩)
              · have h := h.2 hc35
                refine Go.condF (btF rfl hc35) ?_
                refine Go.exit rfl ?_
                refine Go.seq ?_
                refine Go.region rfl ?_
                refine GoOps.q (v := .bool true) rfl rfl (by decide) (q_assign rfl) ?_
                refine GoOps.nil ?_
                exact Go.ret ⟨.inl rfl, _, _, DOk.nil, (resOk1 Try.results27 rfl), ⟨_, rfl, h⟩⟩
          · intro j23 hj23 h
            rcases bor s17 with hc21 | hc21
            · have h := h.1 hc21
              refine plan_skip (i := 36) (d := 46) (S2 := 137438953471) rfl (by decide +kernel) (want_no rfl rfl rfl hc21) ?_
              refine plan_skip (i := 37) (d := 47) (S2 := 274877906943) rfl (by decide +kernel) (want_no rfl rfl rfl hc21) ?_
              refine plan_skip (i := 38) (d := 48) (S2 := 549755813887) rfl (by decide +kernel) (want_no rfl rfl rfl hc21) ?_
              refine plan_skip (i := 39) (d := 49) (S2 := 1099511627775) rfl (by decide +kernel) (want_no rfl rfl rfl hc21) ?_
              refine plan_skip (i := 40) (d := 50) (S2 := 2199023255551) rfl (by decide +kernel) (want_no rfl rfl rfl hc21) ?_
              refine plan_skip (i := 41) (d := 51) (S2 := 4398046511103) rfl (by decide +kernel) (want_no rfl rfl rfl hc21) ?_
              refine plan_skip (i := 42) (d := 52) (S2 := 8796093022207) rfl (by decide +kernel) (want_no rfl rfl rfl hc21) ?_
              refine plan_pure (i := 43) (d := 53) (S2 := 17592186044415) (v := .bool true) rfl (by decide +kernel) rfl (q_pickT (btT rfl hc21) rfl) ?_
              refine plan_weaken (L2 := [41, 32, 22, 12]) (by decide) ?_
              exact hj23 _ _ _ h ⟨e20_0, e20_1, rfl⟩
            · have h := h.2 hc21
              refine plan_pure (i := 36) (d := 46) (S2 := 137438953471) (v := .pointer p0) rfl (by decide +kernel) (want_yes rfl rfl rfl hc21) (q_move e20_0) ?_
              refine plan_pure (i := 38) (d := 48) (S2 := 412316860415) (v := .pointer p1) rfl (by decide +kernel) (want_yes rfl rfl rfl hc21) (q_move e20_1) ?_
              obtain ⟨a50, ha51, h⟩ := h
              refine plan_pure (i := 39) (d := 49) (S2 := 962072674303) (v := .pointer (some a50)) rfl (by decide +kernel) (want_yes rfl rfl rfl hc21) (q_nilCheck (ptn rfl ha51)) ?_
              refine plan_pure (i := 40) (d := 50) (S2 := 2061584302079) (v := .pointer (some (a50.add 4))) rfl (by decide +kernel) (want_yes rfl rfl rfl hc21) (q_fieldAddr foff64_4 rfl) ?_
              obtain ⟨x52, hx53, h⟩ := h
              refine plan_load (i := 41) (d := 51) (S2 := 4260607557631) (v := .bool x52) rfl (by decide +kernel) (want_yes rfl rfl rfl hc21) (q_load scalar4 rfl hx53) ?_
              refine plan_one (j := 37) (S2 := 4398046511103) (by decide +kernel) rfl (by decide) (want_yes rfl rfl rfl hc21) ?_
              refine do_call2 body21 (vdisk_Disk_Off_s _ _ _ h) rfl ?_
              rintro _ H54 ⟨y55, rfl, h⟩
              obtain ⟨hr56, h⟩ := h
              refine ⟨_, (.inr ⟨⟨_, _, rfl, rfl, q_load scalar4 rfl hr56⟩, _, rfl, .inl ⟨⟨[33, 34, 35, 37], by decide +kernel, rfl⟩, .inl ⟨⟨[23, 24, 25, 26, 28, 35, 37], by decide +kernel, rfl⟩, .inl ⟨⟨[13, 14, 15, 16, 18, 26, 28, 35, 37], by decide +kernel, rfl⟩, rfl⟩⟩⟩⟩), ?_⟩
              refine plan_pure (i := 42) (d := 52) (S2 := 8796093022207) (v := .bool (y55 != x52)) rfl (by decide +kernel) (want_yes rfl rfl rfl hc21) (q_neqB Try.underlying4 rfl rfl) ?_
              refine plan_pure (i := 43) (d := 53) (S2 := 17592186044415) (v := .bool (y55 != x52)) rfl (by decide +kernel) rfl (q_pickF (btF rfl hc21) rfl) ?_
              refine plan_weaken (L2 := [41, 32, 22, 12]) (by decide) ?_
              exact hj23 _ _ _ h ⟨e20_0, e20_1, rfl⟩
        · intro j18 hj18 h
          rcases bor s12 with hc16 | hc16
          · have h := h.1 hc16
            refine plan_skip (i := 27) (d := 37) (S2 := 268435455) rfl (by decide +kernel) (want_no rfl rfl rfl hc16) ?_
            refine plan_skip (i := 28) (d := 38) (S2 := 536870911) rfl (by decide +kernel) (want_no rfl rfl rfl hc16) ?_
            refine plan_skip (i := 29) (d := 39) (S2 := 1073741823) rfl (by decide +kernel) (want_no rfl rfl rfl hc16) ?_
            refine plan_skip (i := 30) (d := 40) (S2 := 2147483647) rfl (by decide +kernel) (want_no rfl rfl rfl hc16) ?_
            refine plan_skip (i := 31) (d := 41) (S2 := 4294967295) rfl (by decide +kernel) (want_no rfl rfl rfl hc16) ?_
            refine plan_skip (i := 32) (d := 42) (S2 := 8589934591) rfl (by decide +kernel) (want_no rfl rfl rfl hc16) ?_
            refine plan_skip (i := 33) (d := 43) (S2 := 17179869183) rfl (by decide +kernel) (want_no rfl rfl rfl hc16) ?_
            refine plan_pure (i := 34) (d := 44) (S2 := 34359738367) (v := .bool true) rfl (by decide +kernel) rfl (q_pickT (btT rfl hc16) rfl) ?_
            refine plan_weaken (L2 := [32, 22, 12]) (by decide) ?_
            exact hj18 _ _ _ h ⟨e15_0, e15_1, rfl⟩
          · have h := h.2 hc16
            refine plan_pure (i := 27) (d := 37) (S2 := 268435455) (v := .pointer p0) rfl (by decide +kernel) (want_yes rfl rfl rfl hc16) (q_move e15_0) ?_
            refine plan_pure (i := 29) (d := 39) (S2 := 805306367) (v := .pointer p1) rfl (by decide +kernel) (want_yes rfl rfl rfl hc16) (q_move e15_1) ?_
            obtain ⟨a57, ha58, h⟩ := h
            refine plan_pure (i := 30) (d := 40) (S2 := 1879048191) (v := .pointer (some a57)) rfl (by decide +kernel) (want_yes rfl rfl rfl hc16) (q_nilCheck (ptn rfl ha58)) ?_
            refine plan_pure (i := 31) (d := 41) (S2 := 4026531839) (v := .pointer (some (a57.add 5))) rfl (by decide +kernel) (want_yes rfl rfl rfl hc16) (q_fieldAddr foff64_5 rfl) ?_
            obtain ⟨x59, hx60, h⟩ := h
            refine plan_load (i := 32) (d := 42) (S2 := 8321499135) (v := .int .i64 x59) rfl (by decide +kernel) (want_yes rfl rfl rfl hc16) (q_load scalar3 rfl hx60) ?_
            refine plan_one (j := 28) (S2 := 8589934591) (by decide +kernel) rfl (by decide) (want_yes rfl rfl rfl hc16) ?_
            refine do_call2 body20 (vdisk_Disk_Acts_s _ _ _ h) rfl ?_
            rintro _ H61 ⟨y62, rfl, h⟩
            obtain ⟨hr63, h⟩ := h
            refine ⟨_, (.inr ⟨⟨_, _, rfl, rfl, q_load scalar3 rfl hr63⟩, _, rfl, .inl ⟨⟨[23, 24, 25, 26, 28], by decide +kernel, rfl⟩, .inl ⟨⟨[13, 14, 15, 16, 18, 26, 28], by decide +kernel, rfl⟩, rfl⟩⟩⟩), ?_⟩
            refine plan_pure (i := 33) (d := 43) (S2 := 17179869183) (v := .bool (y62 != x59)) rfl (by decide +kernel) (want_yes rfl rfl rfl hc16) (q_neq rfl rfl) ?_
            refine plan_pure (i := 34) (d := 44) (S2 := 34359738367) (v := .bool (y62 != x59)) rfl (by decide +kernel) rfl (q_pickF (btF rfl hc16) rfl) ?_
            refine plan_weaken (L2 := [32, 22, 12]) (by decide) ?_
            exact hj18 _ _ _ h ⟨e15_0, e15_1, rfl⟩
      · intro j13 hj13 h
        rcases bor s7 with hc11 | hc11
        · have h := h.1 hc11
          refine plan_skip (i := 17) (d := 27) (S2 := 262143) rfl (by decide +kernel) (want_no rfl rfl rfl hc11) ?_
          refine plan_skip (i := 18) (d := 28) (S2 := 524287) rfl (by decide +kernel) (want_no rfl rfl rfl hc11) ?_
          refine plan_skip (i := 19) (d := 29) (S2 := 1048575) rfl (by decide +kernel) (want_no rfl rfl rfl hc11) ?_
          refine plan_skip (i := 20) (d := 30) (S2 := 2097151) rfl (by decide +kernel) (want_no rfl rfl rfl hc11) ?_
          refine plan_skip (i := 21) (d := 31) (S2 := 4194303) rfl (by decide +kernel) (want_no rfl rfl rfl hc11) ?_
          refine plan_skip (i := 22) (d := 32) (S2 := 8388607) rfl (by decide +kernel) (want_no rfl rfl rfl hc11) ?_
          refine plan_skip (i := 23) (d := 33) (S2 := 16777215) rfl (by decide +kernel) (want_no rfl rfl rfl hc11) ?_
          refine plan_skip (i := 24) (d := 34) (S2 := 33554431) rfl (by decide +kernel) (want_no rfl rfl rfl hc11) ?_
          refine plan_pure (i := 25) (d := 35) (S2 := 67108863) (v := .bool true) rfl (by decide +kernel) rfl (q_pickT (btT rfl hc11) rfl) ?_
          refine plan_weaken (L2 := [22, 12]) (by decide) ?_
          exact hj13 _ _ _ h ⟨e10_0, e10_1, rfl⟩
        · have h := h.2 hc11
          refine plan_pure (i := 17) (d := 27) (S2 := 262143) (v := .pointer p0) rfl (by decide +kernel) (want_yes rfl rfl rfl hc11) (q_move e10_0) ?_
          refine plan_pure (i := 19) (d := 29) (S2 := 786431) (v := .pointer p1) rfl (by decide +kernel) (want_yes rfl rfl rfl hc11) (q_move e10_1) ?_
          obtain ⟨a64, ha65, h⟩ := h
          refine plan_pure (i := 20) (d := 30) (S2 := 1835007) (v := .pointer (some a64)) rfl (by decide +kernel) (want_yes rfl rfl rfl hc11) (q_nilCheck (ptn rfl ha65)) ?_
          refine plan_pure (i := 21) (d := 31) (S2 := 3932159) (v := .pointer (some (a64.add 1))) rfl (by decide +kernel) (want_yes rfl rfl rfl hc11) (q_fieldAddr foff64_1 rfl) ?_
          obtain ⟨x66, hx67, h⟩ := h
          refine plan_load (i := 22) (d := 32) (S2 := 8126463) (v := Sl.v x66) rfl (by decide +kernel) (want_yes rfl rfl rfl hc11) (q_load scalar61 rfl hx67) ?_
          refine plan_pure (i := 23) (d := 33) (S2 := 16515071) (v := .int .i64 (x66.len : Int)) rfl (by decide +kernel) (want_yes rfl rfl rfl hc11) (q_len Try.underlying61 rfl (ls1 rfl)) ?_
          refine plan_one (j := 18) (S2 := 16777215) (by decide +kernel) rfl (by decide) (want_yes rfl rfl rfl hc11) ?_
          refine do_call2 body19 (vdisk_Disk_Held_s _ _ _ h) rfl ?_
          rintro _ H68 ⟨y69, rfl, h⟩
          obtain ⟨hr70, h⟩ := h
          refine ⟨_, (.inr ⟨⟨_, _, rfl, rfl, q_load scalar61 rfl hr70⟩, _, rfl, .inl ⟨⟨[13, 14, 15, 16, 18], by decide +kernel, rfl⟩, rfl⟩⟩), ?_⟩
          refine plan_pure (i := 24) (d := 34) (S2 := 33554431) (v := .bool (y69 != (x66.len : Int))) rfl (by decide +kernel) (want_yes rfl rfl rfl hc11) (q_neq rfl rfl) ?_
          refine plan_pure (i := 25) (d := 35) (S2 := 67108863) (v := .bool (y69 != (x66.len : Int))) rfl (by decide +kernel) rfl (q_pickF (btF rfl hc11) rfl) ?_
          refine plan_weaken (L2 := [22, 12]) (by decide) ?_
          exact hj13 _ _ _ h ⟨e10_0, e10_1, rfl⟩
    · intro j8 hj8 h
      rcases bor s2 with hc6 | hc6
      · have h := h.1 hc6
        refine plan_skip (i := 7) (d := 17) (S2 := 255) rfl (by decide +kernel) (want_no rfl rfl rfl hc6) ?_
        refine plan_skip (i := 8) (d := 18) (S2 := 511) rfl (by decide +kernel) (want_no rfl rfl rfl hc6) ?_
        refine plan_skip (i := 9) (d := 19) (S2 := 1023) rfl (by decide +kernel) (want_no rfl rfl rfl hc6) ?_
        refine plan_skip (i := 10) (d := 20) (S2 := 2047) rfl (by decide +kernel) (want_no rfl rfl rfl hc6) ?_
        refine plan_skip (i := 11) (d := 21) (S2 := 4095) rfl (by decide +kernel) (want_no rfl rfl rfl hc6) ?_
        refine plan_skip (i := 12) (d := 22) (S2 := 8191) rfl (by decide +kernel) (want_no rfl rfl rfl hc6) ?_
        refine plan_skip (i := 13) (d := 23) (S2 := 16383) rfl (by decide +kernel) (want_no rfl rfl rfl hc6) ?_
        refine plan_skip (i := 14) (d := 24) (S2 := 32767) rfl (by decide +kernel) (want_no rfl rfl rfl hc6) ?_
        refine plan_pure (i := 15) (d := 25) (S2 := 65535) (v := .bool true) rfl (by decide +kernel) rfl (q_pickT (btT rfl hc6) rfl) ?_
        refine plan_weaken (L2 := [12]) (by decide) ?_
        exact hj8 _ _ _ h ⟨e5_0, e5_1, rfl⟩
      · have h := h.2 hc6
        refine plan_pure (i := 7) (d := 17) (S2 := 255) (v := .pointer p0) rfl (by decide +kernel) (want_yes rfl rfl rfl hc6) (q_move e5_0) ?_
        refine plan_pure (i := 9) (d := 19) (S2 := 767) (v := .pointer p1) rfl (by decide +kernel) (want_yes rfl rfl rfl hc6) (q_move e5_1) ?_
        obtain ⟨a71, ha72, h⟩ := h
        refine plan_pure (i := 10) (d := 20) (S2 := 1791) (v := .pointer (some a71)) rfl (by decide +kernel) (want_yes rfl rfl rfl hc6) (q_nilCheck (ptn rfl ha72)) ?_
        refine plan_pure (i := 11) (d := 21) (S2 := 3839) (v := .pointer (some (a71.add 0))) rfl (by decide +kernel) (want_yes rfl rfl rfl hc6) (q_fieldAddr foff64_0 rfl) ?_
        obtain ⟨x73, hx74, h⟩ := h
        refine plan_load (i := 12) (d := 22) (S2 := 7935) (v := Sl.v x73) rfl (by decide +kernel) (want_yes rfl rfl rfl hc6) (q_load scalar41 rfl hx74) ?_
        refine plan_pure (i := 13) (d := 23) (S2 := 16127) (v := .int .i64 (x73.len : Int)) rfl (by decide +kernel) (want_yes rfl rfl rfl hc6) (q_len Try.underlying41 rfl (ls1 rfl)) ?_
        refine plan_one (j := 8) (S2 := 16383) (by decide +kernel) rfl (by decide) (want_yes rfl rfl rfl hc6) ?_
        refine do_call2 body42 (vdisk_Disk_Sectors_s _ _ _ h) rfl ?_
        rintro _ H75 ⟨y76, rfl, h⟩
        obtain ⟨hr77, h⟩ := h
        refine ⟨_, (.inr ⟨⟨_, _, rfl, rfl, q_load scalar41 rfl hr77⟩, _, rfl, rfl⟩), ?_⟩
        refine plan_pure (i := 14) (d := 24) (S2 := 32767) (v := .bool (y76 != (x73.len : Int))) rfl (by decide +kernel) (want_yes rfl rfl rfl hc6) (q_neq rfl rfl) ?_
        refine plan_pure (i := 15) (d := 25) (S2 := 65535) (v := .bool (y76 != (x73.len : Int))) rfl (by decide +kernel) rfl (q_pickF (btF rfl hc6) rfl) ?_
        exact hj8 _ _ _ h ⟨e5_0, e5_1, rfl⟩
  · intro j3 hj3 h
    rcases bor (Option.isNone p0) with hc1 | hc1
    · have h := h.1 hc1
      refine plan_skip (i := 3) (d := 13) (S2 := 15) rfl (by decide +kernel) (want_no rfl rfl rfl hc1) ?_
      refine plan_skip (i := 4) (d := 14) (S2 := 31) rfl (by decide +kernel) (want_no rfl rfl rfl hc1) ?_
      refine plan_pure (i := 5) (d := 15) (S2 := 63) (v := .bool true) rfl (by decide +kernel) rfl (q_pickT (btT rfl hc1) rfl) ?_
      exact hj3 _ _ _ h ⟨rfl, rfl, rfl⟩
    · have h := h.2 hc1
      refine plan_pure (i := 3) (d := 13) (S2 := 15) (v := .pointer p1) rfl (by decide +kernel) (want_yes rfl rfl rfl hc1) (q_move rfl) ?_
      refine plan_pure (i := 4) (d := 14) (S2 := 31) (v := .bool (Option.isNone p1)) rfl (by decide +kernel) (want_yes rfl rfl rfl hc1) (q_eqlPn Try.underlying47 rfl rfl) ?_
      refine plan_pure (i := 5) (d := 15) (S2 := 63) (v := .bool (Option.isNone p1)) rfl (by decide +kernel) rfl (q_pickF (btF rfl hc1) rfl) ?_
      exact hj3 _ _ _ h ⟨rfl, rfl, rfl⟩

/-- keelson.keelsonlaw3.DiskApart -/
def keelsonlaw3_DiskApart (p0 : Sl) (p1 : Sl) (H : PH) (Q : Bool → PH → Prop) : Prop :=
  mJoin (fun (s2 : Bool) (H4 : PH) =>
  mIf s2
  (keelsonlaw3_awake H4 fun y8 H7 =>
  Q y8 H7)
  (keelsonkit_Two 5 H4 fun y10 y11 y12 H9 =>
  mIf (!y12)
  (Q false H9)
  (mLoop (fun (s14 : Int) (H17 : PH) (again15 : Int → PH → Prop) =>
  mIf (decide (s14 < (p0.len : Int)))
  (mIdx p0 1 s14 fun a19 =>
  mLd (.int .i64) H17 a19 fun x21 =>
  keelsonalike_Round x21 5 H17 fun y24 H23 =>
  keelsonalike_Fill s14 H23 fun y26 H25 =>
  vdisk_Disk_Write y10 y24 y26 H25 fun y28 H27 =>
  mIf (y28 != 0)
  (Q false H27)
  (keelsonalike_Fill s14 H27 fun y31 H30 =>
  keelsonref1_Disk_Write y11 y24 y31 H30 fun y33 H32 =>
  again15 (IntKind.wrap .i64 (s14 + 1)) H32))
  (vdisk_Disk_Crash y10 p1 H17 fun y35 H34 =>
  keelsonref1_Disk_Crash y11 p1 H34 fun y37 H36 =>
  mIf (Option.isNone y35)
  (Q false H36)
  (mLoop (fun (s39 : Int) (H42 : PH) (again40 : Int → PH → Prop) =>
  mIf (decide (s39 < 5))
  (keelsonalike_Fill 77 H42 fun y45 H44 =>
  vdisk_Disk_Write y10 s39 y45 H44 fun y47 H46 =>
  keelsonalike_Fill 77 H46 fun y49 H48 =>
  keelsonref1_Disk_Write y11 s39 y49 H48 fun y51 H50 =>
  again40 (IntKind.wrap .i64 (s39 + 1)) H50)
  (vdisk_Disk_Flush y10 H42 fun y53 H52 =>
  keelsonref1_Disk_Flush y11 H52 fun y55 H54 =>
  keelsonkit_Same y35 y37 H54 fun y57 H56 =>
  mIf (!y57)
  (Q false H56)
  (keelsonalike_Fill 9 H56 fun y60 H59 =>
  vdisk_Disk_Write y35 1 y60 H59 fun y62 H61 =>
  vdisk_Disk_Flush y35 H61 fun y64 H63 =>
  keelsonkit_Same y10 y11 H63 fun y66 H65 =>
  mJoin (fun (s68 : Bool) (H70 : PH) =>
  Q s68 H70)
  fun j69 =>
  mIf y66
  (keelsonlaw3_awake H65 fun y73 H72 =>
  j69 y73 H72)
  (j69 false H65))))
  0 H36)))
  0 H9)))
  fun j3 =>
  mIf (decide (30 < (p0.len : Int)))
  (j3 true H)
  (j3 (decide (30 < (p1.len : Int))) H)

set_option maxRecDepth 20000 in
set_option maxHeartbeats 1000000 in
theorem keelsonlaw3_DiskApart_s (p0 : Sl) (p1 : Sl) (H : PH) (Q : Bool → PH → Prop) (h : keelsonlaw3_DiskApart p0 p1 H Q) :
    CallsH Try.prog 7 #[Sl.v p0, Sl.v p1] H (fun v H' => ∃ (r0 : Bool), v = .bool r0 ∧ Q r0 H') := by
  unfold keelsonlaw3_DiskApart at h
  refine callsH_of_go Try.func7 rfl Try.ntmps7 (Nat.le_of_ble_eq_true rfl) ?_
  refine Go.seq ?_
  refine Go.region rfl ?_
  refine GoOps.q (v := .bool false) rfl rfl (by decide) (q_assign rfl) ?_
  refine GoOps.nil ?_
  refine Go.seq ?_
  refine Go.seq ?_
  refine Go.region rfl ?_
  refine GoOps.q (v := Sl.v p0) rfl rfl (by decide) (q_move rfl) ?_
  refine GoOps.q (v := .int .i64 (p0.len : Int)) rfl rfl (by decide) (q_len Try.underlying37 rfl (ls1 rfl)) ?_
  refine GoOps.q (v := .bool (decide (30 < (p0.len : Int)))) rfl rfl (by decide) (q_gtr rfl rfl) ?_
  refine GoOps.q (v := .bool (decide (30 < (p0.len : Int)))) rfl rfl (by decide) (q_move rfl) ?_
  refine join_ops 4 (fun ρ (s2 : Bool) => ρ 0 = Sl.v p0 ∧ ρ 1 = Sl.v p1 ∧ ρ 20 = .bool s2) h ?_ ?_ <;> clear h
  · intro s2 H4 ρ h hE
    obtain ⟨e5_0, e5_1, e5_20⟩ := hE
    refine GoOps.nil ?_
    rcases bor s2 with hc6 | hc6
    · have h := h.1 hc6
      refine Go.condT (btT e5_20 hc6) ?_
      refine Go.seq ?_
      refine Go.region rfl ?_
      refine call_dst rfl (by decide) body17 (keelsonlaw3_awake_s _ _ h) rfl ?_
      rintro _ H7 ⟨y8, rfl, h⟩
      refine GoOps.q (v := .bool y8) rfl rfl (by decide) (q_assign rfl) ?_
      refine GoOps.nil ?_
      exact Go.ret ⟨.inl rfl, _, _, DOk.nil, (resOk1 Try.results7 rfl), ⟨_, rfl, h⟩⟩
    · have h := h.2 hc6
      refine Go.condF (btF e5_20 hc6) ?_
      refine Go.skip ?_
      refine Go.seq ?_
      refine Go.region rfl ?_
      refine call_dst rfl (by decide) body23 (keelsonkit_Two_s _ _ _ h) rfl ?_
      rintro _ H9 ⟨y10, y11, y12, rfl, h⟩
      refine GoOps.q (v := .tuple #[.pointer y10, .pointer y11, .bool y12]) rfl rfl (by decide) (q_move rfl) ?_
      refine GoOps.q (v := .pointer y10) rfl rfl (by decide) (q_extract rfl rfl) ?_
      refine GoOps.q (v := .pointer y11) rfl rfl (by decide) (q_extract rfl rfl) ?_
      refine GoOps.q (v := .bool y12) rfl rfl (by decide) (q_extract rfl rfl) ?_
      refine GoOps.q (v := .pointer y10) rfl rfl (by decide) (q_assign rfl) ?_
      refine GoOps.q (v := .pointer y11) rfl rfl (by decide) (q_assign rfl) ?_
      refine GoOps.q (v := .bool y12) rfl rfl (by decide) (q_assign rfl) ?_
      refine GoOps.nil ?_
      refine Go.seq ?_
      refine Go.seq ?_
      refine Go.region rfl ?_
      refine GoOps.q (v := .bool y12) rfl rfl (by decide) (q_move rfl) ?_
      refine GoOps.q (v := .bool (!y12)) rfl rfl (by decide) (q_not rfl) ?_
      refine GoOps.nil ?_
      rcases bor (!y12) with hc13 | hc13
      · have h := h.1 hc13
        refine Go.condT (btT rfl hc13) ?_
        refine Go.seq ?_
        refine Go.region rfl ?_
        refine GoOps.q (v := .bool false) rfl rfl (by decide) (q_assign rfl) ?_
        refine GoOps.nil ?_
        exact Go.ret ⟨.inl rfl, _, _, DOk.nil, (resOk1 Try.results7 rfl), ⟨_, rfl, h⟩⟩
      · have h := h.2 hc13
        refine Go.condF (btF rfl hc13) ?_
        refine Go.skip ?_
        refine Go.seq ?_
        refine Go.seq ?_
        refine Go.region rfl ?_
        refine GoOps.q (v := .int .i64 0) rfl rfl (by decide) (q_assign rfl) ?_
        refine GoOps.nil ?_
        refine Go.block ?_
        refine loop_go (fun ρ (s14 : Int) => ρ 0 = Sl.v p0 ∧ ρ 1 = Sl.v p1 ∧ ρ 5 = .pointer y10 ∧ ρ 6 = .pointer y11 ∧ ρ 8 = .int .i64 s14) h ⟨e5_0, e5_1, rfl, rfl, rfl⟩ ?_
        clear h
        intro ρ s14 H17 again15 hE h hagain15
        obtain ⟨e16_0, e16_1, e16_5, e16_6, e16_8⟩ := hE
        refine Go.seq ?_
        refine Go.seq ?_
        refine Go.region rfl ?_
        refine GoOps.q (v := .int .i64 s14) rfl rfl (by decide) (q_move e16_8) ?_
        refine GoOps.q (v := Sl.v p0) rfl rfl (by decide) (q_move e16_0) ?_
        refine GoOps.q (v := .int .i64 (p0.len : Int)) rfl rfl (by decide) (q_len Try.underlying37 rfl (ls1 rfl)) ?_
        refine GoOps.q (v := .bool (decide (s14 < (p0.len : Int)))) rfl rfl (by decide) (q_lss rfl rfl) ?_
        refine GoOps.nil ?_
        rcases bor (decide (s14 < (p0.len : Int))) with hc18 | hc18
        · have h := h.1 hc18
          refine Go.condT (btT rfl hc18) ?_
          refine Go.skip ?_
          refine Go.seq ?_
          refine Go.block ?_
          refine Go.seq ?_
          refine Go.region rfl ?_
          refine GoOps.q (v := Sl.v p0) rfl rfl (by decide) (q_move e16_0) ?_
          refine GoOps.q (v := .int .i64 s14) rfl rfl (by decide) (q_move e16_8) ?_
          obtain ⟨a19, ha20, h⟩ := h
          refine GoOps.q (v := .pointer (some a19)) rfl rfl (by decide) (q_idx slice37 ha20 rfl rfl) ?_
          obtain ⟨x21, hx22, h⟩ := h
          refine GoOps.q (v := .int .i64 x21) rfl rfl (by decide) (q_load scalar3 rfl hx22) ?_
          refine call_dst rfl (by decide) body9 (keelsonalike_Round_s _ _ _ _ h) rfl ?_
          rintro _ H23 ⟨y24, rfl, h⟩
          refine GoOps.q (v := .int .i64 y24) rfl rfl (by decide) (q_assign rfl) ?_
          refine GoOps.nil ?_
          refine Go.seq ?_
          refine Go.seq ?_
          refine Go.region rfl ?_
          refine GoOps.q (v := .pointer y10) rfl rfl (by decide) (q_move e16_5) ?_
          refine GoOps.q (v := .int .i64 y24) rfl rfl (by decide) (q_move rfl) ?_
          refine GoOps.q (v := .int .i64 s14) rfl rfl (by decide) (q_move e16_8) ?_
          refine call_dst rfl (by decide) body12 (keelsonalike_Fill_s _ _ _ h) rfl ?_
          rintro _ H25 ⟨y26, rfl, h⟩
          refine call_dst rfl (by decide) body11 (vdisk_Disk_Write_s _ _ _ _ _ h) rfl ?_
          rintro _ H27 ⟨y28, rfl, h⟩
          refine GoOps.q (v := .bool (y28 != 0)) rfl rfl (by decide) (q_neq rfl rfl) ?_
          refine GoOps.nil ?_
          rcases bor (y28 != 0) with hc29 | hc29
          · have h := h.1 hc29
            refine Go.condT (btT rfl hc29) ?_
            refine Go.seq ?_
            refine Go.region rfl ?_
            refine GoOps.q (v := .bool false) rfl rfl (by decide) (q_assign rfl) ?_
            refine GoOps.nil ?_
            exact Go.ret ⟨.inl rfl, _, _, DOk.nil, (resOk1 Try.results7 rfl), ⟨_, rfl, h⟩⟩
          · have h := h.2 hc29
            refine Go.condF (btF rfl hc29) ?_
            refine Go.skip ?_
            refine Go.region rfl ?_
            refine GoOps.q (v := .pointer y11) rfl rfl (by decide) (q_move e16_6) ?_
            refine GoOps.q (v := .int .i64 y24) rfl rfl (by decide) (q_move rfl) ?_
            refine GoOps.q (v := .int .i64 s14) rfl rfl (by decide) (q_move e16_8) ?_
            refine call_dst rfl (by decide) body12 (keelsonalike_Fill_s _ _ _ h) rfl ?_
            rintro _ H30 ⟨y31, rfl, h⟩
            refine call_dst rfl (by decide) body24 (keelsonref1_Disk_Write_s _ _ _ _ _ h) rfl ?_
            rintro _ H32 ⟨y33, rfl, h⟩
            refine GoOps.nil ?_
            refine Go.inBlock ?_
            refine Go.region rfl ?_
            refine GoOps.q (v := .int .i64 s14) rfl rfl (by decide) (q_move e16_8) ?_
            refine GoOps.q (v := .int .i64 (IntKind.wrap .i64 (s14 + 1))) rfl rfl (by decide) (q_add rfl rfl) ?_
            refine GoOps.q (v := .int .i64 (IntKind.wrap .i64 (s14 + 1))) rfl rfl (by decide) (q_assign rfl) ?_
            refine GoOps.nil ?_
            exact hagain15 _ _ _ h ⟨e16_0, e16_1, e16_5, e16_6, rfl⟩
        · have h := h.2 hc18
          refine Go.condF (btF rfl hc18) ?_
          refine Go.exit rfl ?_
          refine Go.seq ?_
          refine Go.region rfl ?_
          refine GoOps.q (v := .pointer y10) rfl rfl (by decide) (q_move e16_5) ?_
          refine GoOps.q (v := Sl.v p1) rfl rfl (by decide) (q_move e16_1) ?_
          refine call_dst rfl (by decide) body16 (vdisk_Disk_Crash_s _ _ _ _ h) rfl ?_
          rintro _ H34 ⟨y35, rfl, h⟩
          refine GoOps.q (v := .pointer y11) rfl rfl (by decide) (q_move e16_6) ?_
          refine GoOps.q (v := Sl.v p1) rfl rfl (by decide) (q_move e16_1) ?_
          refine call_dst rfl (by decide) body25 (keelsonref1_Disk_Crash_s _ _ _ _ h) rfl ?_
          rintro _ H36 ⟨y37, rfl, h⟩
          refine GoOps.q (v := .pointer y35) rfl rfl (by decide) (q_assign rfl) ?_
          refine GoOps.q (v := .pointer y37) rfl rfl (by decide) (q_assign rfl) ?_
          refine GoOps.nil ?_
          refine Go.seq ?_
          refine Go.seq ?_
          refine Go.region rfl ?_
          refine GoOps.q (v := .pointer y35) rfl rfl (by decide) (q_move rfl) ?_
          refine GoOps.q (v := .bool (Option.isNone y35)) rfl rfl (by decide) (q_eqlPn Try.underlying23 rfl rfl) ?_
          refine GoOps.nil ?_
          rcases bor (Option.isNone y35) with hc38 | hc38
          · have h := h.1 hc38
            refine Go.condT (btT rfl hc38) ?_
            refine Go.seq ?_
            refine Go.region rfl ?_
            refine GoOps.q (v := .bool false) rfl rfl (by decide) (q_assign rfl) ?_
            refine GoOps.nil ?_
            exact Go.ret ⟨.inl rfl, _, _, DOk.nil, (resOk1 Try.results7 rfl), ⟨_, rfl, h⟩⟩
          · have h := h.2 hc38
            refine Go.condF (btF rfl hc38) ?_
            refine Go.skip ?_
            refine Go.seq ?_
            refine Go.seq ?_
            refine Go.region rfl ?_
            refine GoOps.q (v := .int .i64 0) rfl rfl (by decide) (q_assign rfl) ?_
            refine GoOps.nil ?_
            refine Go.block ?_
            refine loop_go (fun ρ (s39 : Int) => ρ 5 = .pointer y10 ∧ ρ 6 = .pointer y11 ∧ ρ 10 = .pointer y35 ∧ ρ 11 = .pointer y37 ∧ ρ 12 = .int .i64 s39) h ⟨e16_5, e16_6, rfl, rfl, rfl⟩ ?_
            clear h
            intro ρ s39 H42 again40 hE h hagain40
            obtain ⟨e41_5, e41_6, e41_10, e41_11, e41_12⟩ := hE
            refine Go.seq ?_
            refine Go.seq ?_
            refine Go.region rfl ?_
            refine GoOps.q (v := .int .i64 s39) rfl rfl (by decide) (q_move e41_12) ?_
            refine GoOps.q (v := .bool (decide (s39 < 5))) rfl rfl (by decide) (q_lss rfl rfl) ?_
            refine GoOps.nil ?_
            rcases bor (decide (s39 < 5)) with hc43 | hc43
            · have h := h.1 hc43
              refine Go.condT (btT rfl hc43) ?_
              refine Go.skip ?_
              refine Go.seq ?_
              refine Go.block ?_
              refine Go.seq ?_
              refine Go.region rfl ?_
              refine GoOps.q (v := .pointer y10) rfl rfl (by decide) (q_move e41_5) ?_
              refine GoOps.q (v := .int .i64 s39) rfl rfl (by decide) (q_move e41_12) ?_
              refine call_dst rfl (by decide) body12 (keelsonalike_Fill_s _ _ _ h) rfl ?_
              rintro _ H44 ⟨y45, rfl, h⟩
              refine call_dst rfl (by decide) body11 (vdisk_Disk_Write_s _ _ _ _ _ h) rfl ?_
              rintro _ H46 ⟨y47, rfl, h⟩
              refine GoOps.nil ?_
              refine Go.region rfl ?_
              refine GoOps.q (v := .pointer y11) rfl rfl (by decide) (q_move e41_6) ?_
              refine GoOps.q (v := .int .i64 s39) rfl rfl (by decide) (q_move e41_12) ?_
              refine call_dst rfl (by decide) body12 (keelsonalike_Fill_s _ _ _ h) rfl ?_
              rintro _ H48 ⟨y49, rfl, h⟩
              refine call_dst rfl (by decide) body24 (keelsonref1_Disk_Write_s _ _ _ _ _ h) rfl ?_
              rintro _ H50 ⟨y51, rfl, h⟩
              refine GoOps.nil ?_
              refine Go.inBlock ?_
              refine Go.region rfl ?_
              refine GoOps.q (v := .int .i64 s39) rfl rfl (by decide) (q_move e41_12) ?_
              refine GoOps.q (v := .int .i64 (IntKind.wrap .i64 (s39 + 1))) rfl rfl (by decide) (q_add rfl rfl) ?_
              refine GoOps.q (v := .int .i64 (IntKind.wrap .i64 (s39 + 1))) rfl rfl (by decide) (q_assign rfl) ?_
              refine GoOps.nil ?_
              exact hagain40 _ _ _ h ⟨e41_5, e41_6, e41_10, e41_11, rfl⟩
            · have h := h.2 hc43
              refine Go.condF (btF rfl hc43) ?_
              refine Go.exit rfl ?_
              refine Go.seq ?_
              refine Go.region rfl ?_
              refine GoOps.q (v := .pointer y10) rfl rfl (by decide) (q_move e41_5) ?_
              refine call_dst rfl (by decide) body18 (vdisk_Disk_Flush_s _ _ _ h) rfl ?_
              rintro _ H52 ⟨y53, rfl, h⟩
              refine GoOps.nil ?_
              refine Go.seq ?_
              refine Go.region rfl ?_
              refine GoOps.q (v := .pointer y11) rfl rfl (by decide) (q_move e41_6) ?_
              refine call_dst rfl (by decide) body26 (keelsonref1_Disk_Flush_s _ _ _ h) rfl ?_
              rintro _ H54 ⟨y55, rfl, h⟩
              refine GoOps.nil ?_
              refine Go.seq ?_
              refine Go.seq ?_
              refine Go.region rfl ?_
              refine GoOps.q (v := .pointer y35) rfl rfl (by decide) (q_move e41_10) ?_
              refine GoOps.q (v := .pointer y37) rfl rfl (by decide) (q_move e41_11) ?_
              refine call_dst rfl (by decide) body27 (keelsonkit_Same_s _ _ _ _ h) rfl ?_
              rintro _ H56 ⟨y57, rfl, h⟩
              refine GoOps.q (v := .bool (!y57)) rfl rfl (by decide) (q_not rfl) ?_
              refine GoOps.nil ?_
              rcases bor (!y57) with hc58 | hc58
              · have h := h.1 hc58
                refine Go.condT (btT rfl hc58) ?_
                refine Go.seq ?_
                refine Go.region rfl ?_
                refine GoOps.q (v := .bool false) rfl rfl (by decide) (q_assign rfl) ?_
                refine GoOps.nil ?_
                exact Go.ret ⟨.inl rfl, _, _, DOk.nil, (resOk1 Try.results7 rfl), ⟨_, rfl, h⟩⟩
              · have h := h.2 hc58
                refine Go.condF (btF rfl hc58) ?_
                refine Go.skip ?_
                refine Go.seq ?_
                refine Go.region rfl ?_
                refine GoOps.q (v := .pointer y35) rfl rfl (by decide) (q_move e41_10) ?_
                refine call_dst rfl (by decide) body12 (keelsonalike_Fill_s _ _ _ h) rfl ?_
                rintro _ H59 ⟨y60, rfl, h⟩
                refine call_dst rfl (by decide) body11 (vdisk_Disk_Write_s _ _ _ _ _ h) rfl ?_
                rintro _ H61 ⟨y62, rfl, h⟩
                refine GoOps.nil ?_
                refine Go.seq ?_
                refine Go.region rfl ?_
                refine GoOps.q (v := .pointer y35) rfl rfl (by decide) (q_move e41_10) ?_
                refine call_dst rfl (by decide) body18 (vdisk_Disk_Flush_s _ _ _ h) rfl ?_
                rintro _ H63 ⟨y64, rfl, h⟩
                refine GoOps.nil ?_
                refine Go.seq ?_
                refine Go.region rfl ?_
                refine GoOps.q (v := .pointer y10) rfl rfl (by decide) (q_move e41_5) ?_
                refine GoOps.q (v := .pointer y11) rfl rfl (by decide) (q_move e41_6) ?_
                refine call_dst rfl (by decide) body27 (keelsonkit_Same_s _ _ _ _ h) rfl ?_
                rintro _ H65 ⟨y66, rfl, h⟩
                refine GoOps.q (v := .bool y66) rfl rfl (by decide) (q_move rfl) ?_
                refine join_ops 2 (fun ρ (s68 : Bool) => ρ 89 = .bool s68) h ?_ ?_ <;> clear h
                · intro s68 H70 ρ h hE
                  have e71_89 := hE
                  refine GoOps.q (v := .bool s68) rfl rfl (by decide) (q_assign e71_89) ?_
                  refine GoOps.nil ?_
                  exact Go.ret ⟨.inl rfl, _, _, DOk.nil, (resOk1 Try.results7 rfl), ⟨_, rfl, h⟩⟩
                · intro j69 hj69 h
                  rcases bor y66 with hc67 | hc67
                  · have h := h.1 hc67
                    refine call_dst (want_yes rfl rfl rfl hc67) (by decide) body17 (keelsonlaw3_awake_s _ _ h) rfl ?_
                    rintro _ H72 ⟨y73, rfl, h⟩
                    refine GoOps.q (v := .bool y73) rfl rfl (by decide) (q_pickT (btT rfl hc67) rfl) ?_
                    exact hj69 y73 _ _ h (by exact rfl)
                  · have h := h.2 hc67
                    refine no_dst (want_no rfl rfl rfl hc67) rfl (by decide) ?_
                    refine GoOps.q (v := .bool false) rfl rfl (by decide) (q_pickF (btF rfl hc67) rfl) ?_
                    exact hj69 false _ _ h (by exact rfl)
  · intro j3 hj3 h
    rcases bor (decide (30 < (p0.len : Int))) with hc1 | hc1
    · have h := h.1 hc1
      refine no_dst (want_no rfl rfl rfl hc1) rfl (by decide) ?_
      refine no_dst (want_no rfl rfl rfl hc1) rfl (by decide) ?_
      refine no_dst (want_no rfl rfl rfl hc1) rfl (by decide) ?_
      refine GoOps.q (v := .bool true) rfl rfl (by decide) (q_pickT (btT rfl hc1) rfl) ?_
      exact hj3 true _ _ h (by exact ⟨rfl, rfl, rfl⟩)
    · have h := h.2 hc1
      refine GoOps.q (v := Sl.v p1) (want_yes rfl rfl rfl hc1) rfl (by decide) (q_move rfl) ?_
      refine GoOps.q (v := .int .i64 (p1.len : Int)) (want_yes rfl rfl rfl hc1) rfl (by decide) (q_len Try.underlying37 rfl (ls1 rfl)) ?_
      refine GoOps.q (v := .bool (decide (30 < (p1.len : Int)))) (want_yes rfl rfl rfl hc1) rfl (by decide) (q_gtr rfl rfl) ?_
      refine GoOps.q (v := .bool (decide (30 < (p1.len : Int)))) rfl rfl (by decide) (q_pickF (btF rfl hc1) rfl) ?_
      exact hj3 (decide (30 < (p1.len : Int))) _ _ h (by exact ⟨rfl, rfl, rfl⟩)

/-- (*keelson.keelsonref1.Disk).Fuse -/
def keelsonref1_Disk_Fuse (p0 : Option Addr) (p1 : Int) (H : PH) (Q : PH → Prop) : Prop :=
  mNil p0 fun a1 =>
  mSt H (a1.add 3) ([.int .i64 p1]) fun H3 =>
  mIf (decide (p1 < 0))
  (mNil p0 fun a6 =>
  mSt H3 (a6.add 3) ([.int .i64 (-1)]) fun H8 =>
  Q H8)
  (Q H3)

set_option maxRecDepth 20000 in
set_option maxHeartbeats 1000000 in
theorem keelsonref1_Disk_Fuse_s (p0 : Option Addr) (p1 : Int) (H : PH) (Q : PH → Prop) (h : keelsonref1_Disk_Fuse p0 p1 H Q) :
    CallsH Try.prog 30 #[.pointer p0, .int .i64 p1] H (fun v H' => v = .tuple #[] ∧ Q H') := by
  unfold keelsonref1_Disk_Fuse at h
  refine callsH_of_go Try.func30 rfl Try.ntmps30 (Nat.le_of_ble_eq_true rfl) ?_
  refine Go.seq ?_
  refine Go.region rfl ?_
  refine GoOps.q (v := .pointer p0) rfl rfl (by decide) (q_move rfl) ?_
  refine GoOps.q (v := .int .i64 p1) rfl rfl (by decide) (q_move rfl) ?_
  obtain ⟨a1, ha2, h⟩ := h
  refine GoOps.q (v := .pointer (some a1)) rfl rfl (by decide) (q_nilCheck (ptn rfl ha2)) ?_
  refine GoOps.q (v := .pointer (some (a1.add 3))) rfl rfl (by decide) (q_fieldAddr foff64_3 rfl) ?_
  obtain ⟨q4b, q4o, q4c, q4e, hq4a, hq4b, hq4l, hq4v, h⟩ := h
  refine op_none rfl rfl (do_store (vs := [.int .i64 p1]) size3 (pta rfl hq4a) rfl rfl rfl hq4v hq4b hq4l ?_) 
  refine GoOps.nil ?_
  refine Go.seq ?_
  refine Go.region rfl ?_
  refine GoOps.q (v := .int .i64 p1) rfl rfl (by decide) (q_move rfl) ?_
  refine GoOps.q (v := .bool (decide (p1 < 0))) rfl rfl (by decide) (q_lss rfl rfl) ?_
  refine GoOps.nil ?_
  rcases bor (decide (p1 < 0)) with hc5 | hc5
  · have h := h.1 hc5
    refine Go.condT (btT rfl hc5) ?_
    refine Go.region rfl ?_
    refine GoOps.q (v := .pointer p0) rfl rfl (by decide) (q_move rfl) ?_
    obtain ⟨a6, ha7, h⟩ := h
    refine GoOps.q (v := .pointer (some a6)) rfl rfl (by decide) (q_nilCheck (ptn rfl ha7)) ?_
    refine GoOps.q (v := .pointer (some (a6.add 3))) rfl rfl (by decide) (q_fieldAddr foff64_3 rfl) ?_
    obtain ⟨q9b, q9o, q9c, q9e, hq9a, hq9b, hq9l, hq9v, h⟩ := h
    refine op_none rfl rfl (do_store (vs := [.int .i64 (-1)]) size3 (pta rfl hq9a) rfl rfl rfl hq9v hq9b hq9l ?_) 
    refine GoOps.nil ?_
    exact Go.fall ⟨.inr rfl, _, _, DOk.nil, (resOk0 Try.results30), ⟨rfl, h⟩⟩
  · have h := h.2 hc5
    refine Go.condF (btF rfl hc5) ?_
    refine Go.skip ?_
    exact Go.fall ⟨.inr rfl, _, _, DOk.nil, (resOk0 Try.results30), ⟨rfl, h⟩⟩

/-- (*keelson.keelsonref1.Disk).Fault -/
def keelsonref1_Disk_Fault (p0 : Option Addr) (p1 : Int) (p2 : Bool) (H : PH) (Q : Int → PH → Prop) : Prop :=
  mNil p0 fun a1 =>
  mLd Sl.v H (a1.add 0) fun x3 =>
  keelsonref1_Within p1 0 (IntKind.wrap .i64 ((x3.len : Int) - 1)) H fun y6 H5 =>
  mIf (!y6)
  (Q 1 H5)
  (mNil p0 fun a8 =>
  mLd Sl.v H5 (a8.add 2) fun x10 =>
  mIdx x10 1 p1 fun a12 =>
  mSt H5 a12 ([.bool p2]) fun H14 =>
  Q 0 H14)

set_option maxRecDepth 20000 in
set_option maxHeartbeats 1000000 in
theorem keelsonref1_Disk_Fault_s (p0 : Option Addr) (p1 : Int) (p2 : Bool) (H : PH) (Q : Int → PH → Prop) (h : keelsonref1_Disk_Fault p0 p1 p2 H Q) :
    CallsH Try.prog 31 #[.pointer p0, .int .i64 p1, .bool p2] H (fun v H' => ∃ (r0 : Int), v = .int .i64 r0 ∧ Q r0 H') := by
  unfold keelsonref1_Disk_Fault at h
  refine callsH_of_go Try.func31 rfl Try.ntmps31 (Nat.le_of_ble_eq_true rfl) ?_
  refine Go.seq ?_
  refine Go.region rfl ?_
  refine GoOps.q (v := .int .i64 0) rfl rfl (by decide) (q_assign rfl) ?_
  refine GoOps.nil ?_
  refine Go.seq ?_
  refine Go.seq ?_
  refine Go.region rfl ?_
  refine GoOps.q (v := .int .i64 p1) rfl rfl (by decide) (q_move rfl) ?_
  refine GoOps.q (v := .pointer p0) rfl rfl (by decide) (q_move rfl) ?_
  obtain ⟨a1, ha2, h⟩ := h
  refine GoOps.q (v := .pointer (some a1)) rfl rfl (by decide) (q_nilCheck (ptn rfl ha2)) ?_
  refine GoOps.q (v := .pointer (some (a1.add 0))) rfl rfl (by decide) (q_fieldAddr foff64_0 rfl) ?_
  obtain ⟨x3, hx4, h⟩ := h
  refine GoOps.q (v := Sl.v x3) rfl rfl (by decide) (q_load scalar41 rfl hx4) ?_
  refine GoOps.q (v := .int .i64 (x3.len : Int)) rfl rfl (by decide) (q_len Try.underlying41 rfl (ls1 rfl)) ?_
  refine GoOps.q (v := .int .i64 (IntKind.wrap .i64 ((x3.len : Int) - 1))) rfl rfl (by decide) (q_sub rfl rfl) ?_
  refine call_dst rfl (by decide) body39 (keelsonref1_Within_s _ _ _ _ _ h) rfl ?_
  rintro _ H5 ⟨y6, rfl, h⟩
  refine GoOps.q (v := .bool (!y6)) rfl rfl (by decide) (q_not rfl) ?_
  refine GoOps.nil ?_
  rcases bor (!y6) with hc7 | hc7
  · have h := h.1 hc7
    refine Go.condT (btT rfl hc7) ?_
    refine Go.seq ?_
    refine Go.region rfl ?_
    refine GoOps.q (v := .int .i64 1) rfl rfl (by decide) (q_assign rfl) ?_
    refine GoOps.nil ?_
    exact Go.ret ⟨.inl rfl, _, _, DOk.nil, (resOk1 Try.results31 rfl), ⟨_, rfl, h⟩⟩
  · have h := h.2 hc7
    refine Go.condF (btF rfl hc7) ?_
    refine Go.skip ?_
    refine Go.seq ?_
    refine Go.region rfl ?_
    refine GoOps.q (v := .pointer p0) rfl rfl (by decide) (q_move rfl) ?_
    obtain ⟨a8, ha9, h⟩ := h
    refine GoOps.q (v := .pointer (some a8)) rfl rfl (by decide) (q_nilCheck (ptn rfl ha9)) ?_
    refine GoOps.q (v := .pointer (some (a8.add 2))) rfl rfl (by decide) (q_fieldAddr foff64_2 rfl) ?_
    obtain ⟨x10, hx11, h⟩ := h
    refine GoOps.q (v := Sl.v x10) rfl rfl (by decide) (q_load scalar62 rfl hx11) ?_
    refine GoOps.q (v := .int .i64 p1) rfl rfl (by decide) (q_move rfl) ?_
    refine GoOps.q (v := .bool p2) rfl rfl (by decide) (q_move rfl) ?_
    obtain ⟨a12, ha13, h⟩ := h
    refine GoOps.q (v := .pointer (some a12)) rfl rfl (by decide) (q_idx slice62 ha13 rfl rfl) ?_
    obtain ⟨q15b, q15o, q15c, q15e, hq15a, hq15b, hq15l, hq15v, h⟩ := h
    refine op_none rfl rfl (do_store (vs := [.bool p2]) size4 (pta rfl hq15a) rfl rfl rfl hq15v hq15b hq15l ?_) 
    refine GoOps.nil ?_
    refine Go.seq ?_
    refine Go.region rfl ?_
    refine GoOps.q (v := .int .i64 0) rfl rfl (by decide) (q_assign rfl) ?_
    refine GoOps.nil ?_
    exact Go.ret ⟨.inl rfl, _, _, DOk.nil, (resOk1 Try.results31 rfl), ⟨_, rfl, h⟩⟩

/-- keelson.keelsonlaw3.DiskPlays -/
def keelsonlaw3_DiskPlays (p0 : Int) (p1 : Sl) (H : PH) (Q : Bool → PH → Prop) : Prop :=
  mIf (decide (60 < (p1.len : Int)))
  (keelsonlaw3_awake H fun y3 H2 =>
  Q y3 H2)
  (vdisk_New p0 H fun y5 y6 H4 =>
  keelsonref1_NewDisk p0 H4 fun y8 H7 =>
  mIf (Option.isNone y8)
  (mJoin (fun (s11 : Bool) (H13 : PH) =>
  mJoin (fun (s16 : Bool) (H18 : PH) =>
  Q s16 H18)
  fun j17 =>
  mIf s11
  (keelsonlaw3_awake H13 fun y21 H20 =>
  j17 y21 H20)
  (j17 false H13))
  fun j12 =>
  mIf (y6 == 1)
  (j12 (Option.isNone y5) H7)
  (j12 false H7))
  (mJoin (fun (s23 : Bool) (H25 : PH) =>
  mJoin (fun (s28 : Bool) (H30 : PH) =>
  mIf s28
  (mJoin (fun (s34 : Bool) (H36 : PH) =>
  mJoin (fun (s39 : Bool) (H41 : PH) =>
  Q s39 H41)
  fun j40 =>
  mIf s34
  (keelsonlaw3_awake H36 fun y44 H43 =>
  j40 y44 H43)
  (j40 false H36))
  fun j35 =>
  mIf (y6 == 0)
  (j35 (!(Option.isNone y5)) H30)
  (j35 false H30))
  (mLoop (fun (s45 : Option Addr × Option Addr × Int) (H48 : PH) (again46 : (Option Addr × Option Addr × Int) → PH → Prop) =>
  mIf (decide (s45.2.2 < (p1.len : Int)))
  (mIdx p1 4 s45.2.2 fun a50 =>
  mLdR (fun (x : (Int × Int × Int × Sl)) => [.int .i64 x.1, .int .i64 x.2.1, .int .i64 x.2.2.1, Sl.v x.2.2.2]) H48 a50 4 fun x52 =>
  mNew H48 (row [.int .i64 0, .int .i64 0, .int .i64 0, .slice none 0 0] 57) fun a54 H55 =>
  mSt H55 a54 ([.int .i64 x52.1, .int .i64 x52.2.1, .int .i64 x52.2.2.1, Sl.v x52.2.2.2]) fun H57 =>
  mLd Sl.v H57 (a54.add 3) fun x59 =>
  mIf (decide (60 < (x59.len : Int)))
  (keelsonlaw3_awake H57 fun y63 H62 =>
  Q y63 H62)
  (mLd (.int .i64) H57 (a54.add 0) fun x64 =>
  mJoin (fun (s66 : Option Addr × Option Addr) (H68 : PH) =>
  mJoin (fun (s71 : Bool) (H73 : PH) =>
  mJoin (fun (s76 : Bool) (H78 : PH) =>
  mJoin (fun (s81 : Bool) (H83 : PH) =>
  mIf s81
  (Q false H83)
  (again46 (s66.1, s66.2, IntKind.wrap .i64 (s45.2.2 + 1)) H83))
  fun j82 =>
  mIf s76
  (j82 true H78)
  (mNil s66.2 fun a86 =>
  mLd .bool H78 (a86.add 4) fun x88 =>
  vdisk_Disk_Off s66.1 H78 fun y91 H90 =>
  mSame H90 (a86.add 4) (.bool x88) <|
  j82 (y91 != x88) H90))
  fun j77 =>
  mIf s71
  (j77 true H73)
  (mNil s66.2 fun a93 =>
  mLd (.int .i64) H73 (a93.add 5) fun x95 =>
  vdisk_Disk_Acts s66.1 H73 fun y98 H97 =>
  mSame H97 (a93.add 5) (.int .i64 x95) <|
  j77 (y98 != x95) H97))
  fun j72 =>
  mIf (Option.isNone s66.1)
  (j72 true H68)
  (mNil s66.2 fun a100 =>
  mLd Sl.v H68 (a100.add 1) fun x102 =>
  vdisk_Disk_Held s66.1 H68 fun y105 H104 =>
  mSame H104 (a100.add 1) (Sl.v x102) <|
  j72 (y105 != (x102.len : Int)) H104))
  fun j67 =>
  mIf (x64 == 1)
  (mLd (.int .i64) H57 (a54.add 1) fun x108 =>
  mLd (.int .i64) H57 (a54.add 2) fun x110 =>
  mLd (.int .i64) H57 (a54.add 1) fun x112 =>
  mLd (.int .i64) H57 (a54.add 2) fun x114 =>
  keelsonalike_Fill x110 H57 fun y117 H116 =>
  mSame H116 (a54.add 2) (.int .i64 x114) <|
  mSame H116 (a54.add 1) (.int .i64 x112) <|
  mSame H116 (a54.add 1) (.int .i64 x108) <|
  vdisk_Disk_Write s45.1 x108 y117 H116 fun y122 H121 =>
  mSame H121 (a54.add 2) (.int .i64 x114) <|
  mSame H121 (a54.add 1) (.int .i64 x112) <|
  keelsonalike_Fill x114 H121 fun y126 H125 =>
  mSame H125 (a54.add 1) (.int .i64 x112) <|
  keelsonref1_Disk_Write s45.2.1 x112 y126 H125 fun y129 H128 =>
  mIf (y122 != y129)
  (Q false H128)
  (j67 (s45.1, s45.2.1) H128))
  (mIf (x64 == 2)
  (vdisk_Disk_Flush s45.1 H57 fun y133 H132 =>
  keelsonref1_Disk_Flush s45.2.1 H132 fun y135 H134 =>
  mIf (y133 != y135)
  (Q false H134)
  (j67 (s45.1, s45.2.1) H134))
  (mIf (x64 == 3)
  (mLd (.int .i64) H57 (a54.add 1) fun x138 =>
  vdisk_Disk_Read s45.1 x138 H57 fun y141 y142 H140 =>
  mLd (.int .i64) H140 (a54.add 1) fun x143 =>
  keelsonref1_Disk_Read s45.2.1 x143 H140 fun y146 y147 H145 =>
  mJoin (fun (s149 : Bool) (H151 : PH) =>
  mIf s149
  (Q false H151)
  (j67 (s45.1, s45.2.1) H151))
  fun j150 =>
  mIf (y142 != y147)
  (j150 true H145)
  (keelsonalike_Bytes y141 y146 H145 fun y155 H154 =>
  j150 (!y155) H154))
  (mIf (x64 == 4)
  (mLd (.int .i64) H57 (a54.add 1) fun x157 =>
  vdisk_Disk_Fuse s45.1 x157 H57 fun H159 =>
  mLd (.int .i64) H159 (a54.add 1) fun x160 =>
  keelsonref1_Disk_Fuse s45.2.1 x160 H159 fun H162 =>
  j67 (s45.1, s45.2.1) H162)
  (mIf (x64 == 5)
  (mLd (.int .i64) H57 (a54.add 1) fun x164 =>
  mLd (.int .i64) H57 (a54.add 2) fun x166 =>
  mLd (.int .i64) H57 (a54.add 1) fun x168 =>
  mLd (.int .i64) H57 (a54.add 2) fun x170 =>
  vdisk_Disk_Fault s45.1 x164 ((iand .i64 x166 1) == 1) H57 fun y173 H172 =>
  mSame H172 (a54.add 2) (.int .i64 x170) <|
  mSame H172 (a54.add 1) (.int .i64 x168) <|
  keelsonref1_Disk_Fault s45.2.1 x168 ((iand .i64 x170 1) == 1) H172 fun y177 H176 =>
  mIf (y173 != y177)
  (Q false H176)
  (j67 (s45.1, s45.2.1) H176))
  (mIf (x64 == 6)
  (mLd Sl.v H57 (a54.add 3) fun x180 =>
  vdisk_Disk_Crash s45.1 x180 H57 fun y183 H182 =>
  mLd Sl.v H182 (a54.add 3) fun x184 =>
  keelsonref1_Disk_Crash s45.2.1 x184 H182 fun y187 H186 =>
  keelsonkit_Same s45.1 s45.2.1 H186 fun y189 H188 =>
  mIf (!y189)
  (Q false H188)
  (j67 (y183, y187) H188))
  (mIf (x64 == 7)
  (mLd (.int .i64) H57 (a54.add 2) fun x192 =>
  keelsonalike_Round x192 130 H57 fun y195 H194 =>
  mMk H194 5 1 [.int .u8 0] y195 y195 fun r196 H197 =>
  mLd (.int .i64) H197 (a54.add 1) fun x200 =>
  mLd (.int .i64) H197 (a54.add 1) fun x202 =>
  vdisk_Disk_Write s45.1 x200 r196 H197 fun y205 H204 =>
  mSame H204 (a54.add 1) (.int .i64 x202) <|
  keelsonref1_Disk_Write s45.2.1 x202 r196 H204 fun y208 H207 =>
  mIf (y205 != y208)
  (Q false H207)
  (j67 (s45.1, s45.2.1) H207))
  (j67 (s45.1, s45.2.1) H57)))))))))
  (keelsonkit_Same s45.1 s45.2.1 H48 fun y211 H210 =>
  mJoin (fun (s213 : Bool) (H215 : PH) =>
  Q s213 H215)
  fun j214 =>
  mIf y211
  (keelsonlaw3_awake H210 fun y218 H217 =>
  j214 y218 H217)
  (j214 false H210)))
  (y5, y8, 0) H30))
  fun j29 =>
  mIf s23
  (j29 true H25)
  (j29 (decide (300 < p0)) H25))
  fun j24 =>
  mIf (y6 != 0)
  (j24 true H7)
  (j24 (Option.isNone y5) H7)))

set_option maxRecDepth 20000 in
set_option maxHeartbeats 1000000 in
theorem keelsonlaw3_DiskPlays_s (p0 : Int) (p1 : Sl) (H : PH) (Q : Bool → PH → Prop) (h : keelsonlaw3_DiskPlays p0 p1 H Q) :
    CallsH Try.prog 8 #[.int .i64 p0, Sl.v p1] H (fun v H' => ∃ (r0 : Bool), v = .bool r0 ∧ Q r0 H') := by
  unfold keelsonlaw3_DiskPlays at h
  refine callsH_of_go Try.func8 rfl Try.ntmps8 (Nat.le_of_ble_eq_true rfl) ?_
  refine Go.seq ?_
  refine Go.region rfl ?_
  refine GoOps.q (v := .bool false) rfl rfl (by decide) (q_assign rfl) ?_
  refine GoOps.nil ?_
  refine Go.seq ?_
  refine Go.seq ?_
  refine Go.region rfl ?_
  refine GoOps.q (v := Sl.v p1) rfl rfl (by decide) (q_move rfl) ?_
  refine GoOps.q (v := .int .i64 (p1.len : Int)) rfl rfl (by decide) (q_len Try.underlying54 rfl (ls1 rfl)) ?_
  refine GoOps.q (v := .bool (decide (60 < (p1.len : Int)))) rfl rfl (by decide) (q_gtr rfl rfl) ?_
  refine GoOps.nil ?_
  rcases bor (decide (60 < (p1.len : Int))) with hc1 | hc1
  · have h := h.1 hc1
    refine Go.condT (btT rfl hc1) ?_
    refine Go.seq ?_
    refine Go.region rfl ?_
    refine call_dst rfl (by decide) body17 (keelsonlaw3_awake_s _ _ h) rfl ?_
    rintro _ H2 ⟨y3, rfl, h⟩
    refine GoOps.q (v := .bool y3) rfl rfl (by decide) (q_assign rfl) ?_
    refine GoOps.nil ?_
    exact Go.ret ⟨.inl rfl, _, _, DOk.nil, (resOk1 Try.results8 rfl), ⟨_, rfl, h⟩⟩
  · have h := h.2 hc1
    refine Go.condF (btF rfl hc1) ?_
    refine Go.skip ?_
    refine Go.seq ?_
    refine Go.region rfl ?_
    refine GoOps.q (v := .int .i64 p0) rfl rfl (by decide) (q_move rfl) ?_
    refine call_dst rfl (by decide) body10 (vdisk_New_s _ _ _ h) rfl ?_
    rintro _ H4 ⟨y5, y6, rfl, h⟩
    refine GoOps.q (v := .tuple #[.pointer y5, .int .i64 y6]) rfl rfl (by decide) (q_move rfl) ?_
    refine GoOps.q (v := .pointer y5) rfl rfl (by decide) (q_extract rfl rfl) ?_
    refine GoOps.q (v := .int .i64 y6) rfl rfl (by decide) (q_extract rfl rfl) ?_
    refine GoOps.q (v := .pointer y5) rfl rfl (by decide) (q_assign rfl) ?_
    refine GoOps.q (v := .int .i64 y6) rfl rfl (by decide) (q_assign rfl) ?_
    refine GoOps.nil ?_
    refine Go.seq ?_
    refine Go.region rfl ?_
    refine GoOps.q (v := .int .i64 p0) rfl rfl (by decide) (q_move rfl) ?_
    refine call_dst rfl (by decide) body28 (keelsonref1_NewDisk_s _ _ _ h) rfl ?_
    rintro _ H7 ⟨y8, rfl, h⟩
    refine GoOps.q (v := .pointer y8) rfl rfl (by decide) (q_assign rfl) ?_
    refine GoOps.nil ?_
    refine Go.seq ?_
    refine Go.seq ?_
    refine Go.region rfl ?_
    refine GoOps.q (v := .pointer y8) rfl rfl (by decide) (q_move rfl) ?_
    refine GoOps.q (v := .bool (Option.isNone y8)) rfl rfl (by decide) (q_eqlPn Try.underlying47 rfl rfl) ?_
    refine GoOps.nil ?_
    rcases bor (Option.isNone y8) with hc9 | hc9
    · have h := h.1 hc9
      refine Go.condT (btT rfl hc9) ?_
      refine Go.seq ?_
      refine Go.region rfl ?_
      refine GoOps.q (v := .int .i64 y6) rfl rfl (by decide) (q_move rfl) ?_
      refine GoOps.q (v := .bool (y6 == 1)) rfl rfl (by decide) (q_eql rfl rfl) ?_
      refine GoOps.q (v := .bool (y6 == 1)) rfl rfl (by decide) (q_move rfl) ?_
      refine join_ops 3 (fun ρ (s11 : Bool) => ρ 35 = .bool s11) h ?_ ?_ <;> clear h
      · intro s11 H13 ρ h hE
        have e14_35 := hE
        refine GoOps.q (v := .bool s11) rfl rfl (by decide) (q_move e14_35) ?_
        refine join_ops 2 (fun ρ (s16 : Bool) => ρ 38 = .bool s16) h ?_ ?_ <;> clear h
        · intro s16 H18 ρ h hE
          have e19_38 := hE
          refine GoOps.q (v := .bool s16) rfl rfl (by decide) (q_assign e19_38) ?_
          refine GoOps.nil ?_
          exact Go.ret ⟨.inl rfl, _, _, DOk.nil, (resOk1 Try.results8 rfl), ⟨_, rfl, h⟩⟩
        · intro j17 hj17 h
          rcases bor s11 with hc15 | hc15
          · have h := h.1 hc15
            refine call_dst (want_yes rfl rfl rfl hc15) (by decide) body17 (keelsonlaw3_awake_s _ _ h) rfl ?_
            rintro _ H20 ⟨y21, rfl, h⟩
            refine GoOps.q (v := .bool y21) rfl rfl (by decide) (q_pickT (btT rfl hc15) rfl) ?_
            exact hj17 y21 _ _ h (by exact rfl)
          · have h := h.2 hc15
            refine no_dst (want_no rfl rfl rfl hc15) rfl (by decide) ?_
            refine GoOps.q (v := .bool false) rfl rfl (by decide) (q_pickF (btF rfl hc15) rfl) ?_
            exact hj17 false _ _ h (by exact rfl)
      · intro j12 hj12 h
        rcases bor (y6 == 1) with hc10 | hc10
        · have h := h.1 hc10
          refine GoOps.q (v := .pointer y5) (want_yes rfl rfl rfl hc10) rfl (by decide) (q_move rfl) ?_
          refine GoOps.q (v := .bool (Option.isNone y5)) (want_yes rfl rfl rfl hc10) rfl (by decide) (q_eqlPn Try.underlying23 rfl rfl) ?_
          refine GoOps.q (v := .bool (Option.isNone y5)) rfl rfl (by decide) (q_pickT (btT rfl hc10) rfl) ?_
          exact hj12 (Option.isNone y5) _ _ h (by exact rfl)
        · have h := h.2 hc10
          refine no_dst (want_no rfl rfl rfl hc10) rfl (by decide) ?_
          refine no_dst (want_no rfl rfl rfl hc10) rfl (by decide) ?_
          refine GoOps.q (v := .bool false) rfl rfl (by decide) (q_pickF (btF rfl hc10) rfl) ?_
          exact hj12 false _ _ h (by exact rfl)
    · have h := h.2 hc9
      refine Go.condF (btF rfl hc9) ?_
      refine Go.skip ?_
      refine Go.seq ?_
      refine Go.seq ?_
      refine Go.region rfl ?_
      refine GoOps.q (v := .int .i64 y6) rfl rfl (by decide) (q_move rfl) ?_
      refine GoOps.q (v := .bool (y6 != 0)) rfl rfl (by decide) (q_neq rfl rfl) ?_
      refine GoOps.q (v := .bool (y6 != 0)) rfl rfl (by decide) (q_move rfl) ?_
      refine join_ops 3 (fun ρ (s23 : Bool) => ρ 0 = .int .i64 p0 ∧ ρ 1 = Sl.v p1 ∧ ρ 5 = .pointer y5 ∧ ρ 6 = .int .i64 y6 ∧ ρ 7 = .pointer y8 ∧ ρ 44 = .bool s23) h ?_ ?_ <;> clear h
      · intro s23 H25 ρ h hE
        obtain ⟨e26_0, e26_1, e26_5, e26_6, e26_7, e26_44⟩ := hE
        refine GoOps.q (v := .bool s23) rfl rfl (by decide) (q_move e26_44) ?_
        refine join_ops 3 (fun ρ (s28 : Bool) => ρ 1 = Sl.v p1 ∧ ρ 5 = .pointer y5 ∧ ρ 6 = .int .i64 y6 ∧ ρ 7 = .pointer y8 ∧ ρ 48 = .bool s28) h ?_ ?_ <;> clear h
        · intro s28 H30 ρ h hE
          obtain ⟨e31_1, e31_5, e31_6, e31_7, e31_48⟩ := hE
          refine GoOps.nil ?_
          rcases bor s28 with hc32 | hc32
          · have h := h.1 hc32
            refine Go.condT (btT e31_48 hc32) ?_
            refine Go.seq ?_
            refine Go.region rfl ?_
            refine GoOps.q (v := .int .i64 y6) rfl rfl (by decide) (q_move e31_6) ?_
            refine GoOps.q (v := .bool (y6 == 0)) rfl rfl (by decide) (q_eql rfl rfl) ?_
            refine GoOps.q (v := .bool (y6 == 0)) rfl rfl (by decide) (q_move rfl) ?_
            refine join_ops 3 (fun ρ (s34 : Bool) => ρ 54 = .bool s34) h ?_ ?_ <;> clear h
            · intro s34 H36 ρ h hE
              have e37_54 := hE
              refine GoOps.q (v := .bool s34) rfl rfl (by decide) (q_move e37_54) ?_
              refine join_ops 2 (fun ρ (s39 : Bool) => ρ 57 = .bool s39) h ?_ ?_ <;> clear h
              · intro s39 H41 ρ h hE
                have e42_57 := hE
                refine GoOps.q (v := .bool s39) rfl rfl (by decide) (q_assign e42_57) ?_
                refine GoOps.nil ?_
                exact Go.ret ⟨.inl rfl, _, _, DOk.nil, (resOk1 Try.results8 rfl), ⟨_, rfl, h⟩⟩
              · intro j40 hj40 h
                rcases bor s34 with hc38 | hc38
                · have h := h.1 hc38
                  refine call_dst (want_yes rfl rfl rfl hc38) (by decide) body17 (keelsonlaw3_awake_s _ _ h) rfl ?_
                  rintro _ H43 ⟨y44, rfl, h⟩
                  refine GoOps.q (v := .bool y44) rfl rfl (by decide) (q_pickT (btT rfl hc38) rfl) ?_
                  exact hj40 y44 _ _ h (by exact rfl)
                · have h := h.2 hc38
                  refine no_dst (want_no rfl rfl rfl hc38) rfl (by decide) ?_
                  refine GoOps.q (v := .bool false) rfl rfl (by decide) (q_pickF (btF rfl hc38) rfl) ?_
                  exact hj40 false _ _ h (by exact rfl)
            · intro j35 hj35 h
              rcases bor (y6 == 0) with hc33 | hc33
              · have h := h.1 hc33
                refine GoOps.q (v := .pointer y5) (want_yes rfl rfl rfl hc33) rfl (by decide) (q_move e31_5) ?_
                refine GoOps.q (v := .bool (!(Option.isNone y5))) (want_yes rfl rfl rfl hc33) rfl (by decide) (q_neqPn Try.underlying23 rfl rfl) ?_
                refine GoOps.q (v := .bool (!(Option.isNone y5))) rfl rfl (by decide) (q_pickT (btT rfl hc33) rfl) ?_
                exact hj35 (!(Option.isNone y5)) _ _ h (by exact rfl)
              · have h := h.2 hc33
                refine no_dst (want_no rfl rfl rfl hc33) rfl (by decide) ?_
                refine no_dst (want_no rfl rfl rfl hc33) rfl (by decide) ?_
                refine GoOps.q (v := .bool false) rfl rfl (by decide) (q_pickF (btF rfl hc33) rfl) ?_
                exact hj35 false _ _ h (by exact rfl)
          · have h := h.2 hc32
            refine Go.condF (btF e31_48 hc32) ?_
            refine Go.skip ?_
            refine Go.seq ?_
            refine Go.seq ?_
            refine Go.region rfl ?_
            refine GoOps.q (v := .int .i64 0) rfl rfl (by decide) (q_assign rfl) ?_
            refine GoOps.nil ?_
            refine Go.block ?_
            refine loop_go (fun ρ (s45 : Option Addr × Option Addr × Int) => ρ 1 = Sl.v p1 ∧ ρ 5 = .pointer s45.1 ∧ ρ 7 = .pointer s45.2.1 ∧ ρ 8 = .int .i64 s45.2.2) h ⟨e31_1, e31_5, e31_7, rfl⟩ ?_
            clear h
            intro ρ s45 H48 again46 hE h hagain46
            obtain ⟨e47_1, e47_5, e47_7, e47_8⟩ := hE
            refine Go.seq ?_
            refine Go.seq ?_
            refine Go.region rfl ?_
            refine GoOps.q (v := .int .i64 s45.2.2) rfl rfl (by decide) (q_move e47_8) ?_
            refine GoOps.q (v := Sl.v p1) rfl rfl (by decide) (q_move e47_1) ?_
            refine GoOps.q (v := .int .i64 (p1.len : Int)) rfl rfl (by decide) (q_len Try.underlying54 rfl (ls1 rfl)) ?_
            refine GoOps.q (v := .bool (decide (s45.2.2 < (p1.len : Int)))) rfl rfl (by decide) (q_lss rfl rfl) ?_
            refine GoOps.nil ?_
            rcases bor (decide (s45.2.2 < (p1.len : Int))) with hc49 | hc49
            · have h := h.1 hc49
              refine Go.condT (btT rfl hc49) ?_
              refine Go.skip ?_
              refine Go.seq ?_
              refine Go.block ?_
              refine Go.seq ?_
              refine Go.region rfl ?_
              refine GoOps.q (v := Sl.v p1) rfl rfl (by decide) (q_move e47_1) ?_
              refine GoOps.q (v := .int .i64 s45.2.2) rfl rfl (by decide) (q_move e47_8) ?_
              obtain ⟨a50, ha51, h⟩ := h
              refine GoOps.q (v := .pointer (some a50)) rfl rfl (by decide) (q_idx slice54 ha51 rfl rfl) ?_
              obtain ⟨x52, hx53, h⟩ := h
              refine GoOps.q (v := .agg ([.int .i64 x52.1, .int .i64 x52.2.1, .int .i64 x52.2.2.1, Sl.v x52.2.2.2] : List Value).toArray) rfl rfl (by decide) (q_loadA aggr57 rfl hx53) ?_
              refine op_dst rfl rfl (by decide) (do_new zero57 rfl fun a54 H55 hb56 => ?_) 
              have h := h a54 H55 hb56
              obtain ⟨q58b, q58o, q58c, q58e, hq58a, hq58b, hq58l, hq58v, h⟩ := h
              refine op_none rfl rfl (do_store (vs := [.int .i64 x52.1, .int .i64 x52.2.1, .int .i64 x52.2.2.1, Sl.v x52.2.2.2]) size57 (pta rfl hq58a) rfl rfl rfl hq58v hq58b hq58l ?_) 
              refine GoOps.nil ?_
              refine Go.seq ?_
              refine Go.seq ?_
              refine Go.region rfl ?_
              refine GoOps.q (v := .pointer (some (a54.add 3))) rfl rfl (by decide) (q_fieldAddr foff57_3 rfl) ?_
              obtain ⟨x59, hx60, h⟩ := h
              refine GoOps.q (v := Sl.v x59) rfl rfl (by decide) (q_load scalar37 rfl hx60) ?_
              refine GoOps.q (v := .int .i64 (x59.len : Int)) rfl rfl (by decide) (q_len Try.underlying37 rfl (ls1 rfl)) ?_
              refine GoOps.q (v := .bool (decide (60 < (x59.len : Int)))) rfl rfl (by decide) (q_gtr rfl rfl) ?_
              refine GoOps.nil ?_
              rcases bor (decide (60 < (x59.len : Int))) with hc61 | hc61
              · have h := h.1 hc61
                refine Go.condT (btT rfl hc61) ?_
                refine Go.seq ?_
                refine Go.region rfl ?_
                refine call_dst rfl (by decide) body17 (keelsonlaw3_awake_s _ _ h) rfl ?_
                rintro _ H62 ⟨y63, rfl, h⟩
                refine GoOps.q (v := .bool y63) rfl rfl (by decide) (q_assign rfl) ?_
                refine GoOps.nil ?_
                exact Go.ret ⟨.inl rfl, _, _, DOk.nil, (resOk1 Try.results8 rfl), ⟨_, rfl, h⟩⟩
              · have h := h.2 hc61
                refine Go.condF (btF rfl hc61) ?_
                refine Go.skip ?_
                refine Go.seq ?_
                refine Go.seq ?_
                refine Go.region rfl ?_
                refine GoOps.q (v := .pointer (some (a54.add 0))) rfl rfl (by decide) (q_fieldAddr foff57_0 rfl) ?_
                obtain ⟨x64, hx65, h⟩ := h
                refine GoOps.q (v := .int .i64 x64) rfl rfl (by decide) (q_load scalar3 rfl hx65) ?_
                refine GoOps.nil ?_
                refine join_go 1 (fun ρ (s66 : Option Addr × Option Addr) => ρ 1 = Sl.v p1 ∧ ρ 5 = .pointer s66.1 ∧ ρ 7 = .pointer s66.2 ∧ ρ 8 = .int .i64 s45.2.2) h ?_ ?_ <;> clear h
                · intro s66 H68 ρ h hE
                  obtain ⟨e69_1, e69_5, e69_7, e69_8⟩ := hE
                  refine Go.seq ?_
                  refine Go.draw mixed ?_
                  refine plan_pure (i := 0) (d := 186) (S2 := 1) (v := .pointer s66.1) rfl (by decide +kernel) rfl (q_move e69_5) ?_
                  refine plan_pure (i := 1) (d := 187) (S2 := 3) (v := .bool (Option.isNone s66.1)) rfl (by decide +kernel) rfl (q_eqlPn Try.underlying23 rfl rfl) ?_
                  refine plan_pure (i := 2) (d := 188) (S2 := 7) (v := .bool (Option.isNone s66.1)) rfl (by decide +kernel) rfl (q_move rfl) ?_
                  refine join_plan 4095 [8] (fun ρ (s71 : Bool) => ρ 1 = Sl.v p1 ∧ ρ 5 = .pointer s66.1 ∧ ρ 7 = .pointer s66.2 ∧ ρ 8 = .int .i64 s45.2.2 ∧ ρ 197 = .bool s71) h ?_ ?_ <;> clear h
                  · intro s71 H73 ρ h hE
                    obtain ⟨e74_1, e74_5, e74_7, e74_8, e74_197⟩ := hE
                    refine plan_pure (i := 12) (d := 198) (S2 := 8191) (v := .bool s71) rfl (by decide +kernel) rfl (q_move e74_197) ?_
                    refine join_plan 2097151 [18, 8] (fun ρ (s76 : Bool) => ρ 1 = Sl.v p1 ∧ ρ 5 = .pointer s66.1 ∧ ρ 7 = .pointer s66.2 ∧ ρ 8 = .int .i64 s45.2.2 ∧ ρ 206 = .bool s76) h ?_ ?_ <;> clear h
                    · intro s76 H78 ρ h hE
                      obtain ⟨e79_1, e79_5, e79_7, e79_8, e79_206⟩ := hE
                      refine plan_pure (i := 21) (d := 207) (S2 := 4194303) (v := .bool s76) rfl (by decide +kernel) rfl (q_move e79_206) ?_
                      refine join_plan 1073741823 [27, 18, 8] (fun ρ (s81 : Bool) => ρ 1 = Sl.v p1 ∧ ρ 5 = .pointer s66.1 ∧ ρ 7 = .pointer s66.2 ∧ ρ 8 = .int .i64 s45.2.2 ∧ ρ 215 = .bool s81) h ?_ ?_ <;> clear h
                      · intro s81 H83 ρ h hE
                        obtain ⟨e84_1, e84_5, e84_7, e84_8, e84_215⟩ := hE
                        refine plan_done (by decide +kernel) ?_
                        rcases bor s81 with hc85 | hc85
                        · have h := h.1 hc85
                          refine Go.condT (btT e84_215 hc85) ?_
                          refine Go.seq ?_
                          refine Go.region rfl ?_
                          refine GoOps.q (v := .bool false) rfl rfl (by decide) (q_assign rfl) ?_
                          refine GoOps.nil ?_
                          exact Go.ret ⟨.inl rfl, _, _, DOk.nil, (resOk1 Try.results8 rfl), ⟨_, rfl, h⟩⟩
                        · have h := h.2 hc85
                          refine Go.condF (btF e84_215 hc85) ?_
                          refine Go.skip ?_
                          refine Go.inBlock ?_
                          refine Go.region rfl ?_
                          refine GoOps.q (v := .int .i64 s45.2.2) rfl rfl (by decide) (q_move e84_8) ?_
                          refine GoOps.q (v := .int .i64 (IntKind.wrap .i64 (s45.2.2 + 1))) rfl rfl (by decide) (q_add rfl rfl) ?_
                          refine GoOps.q (v := .int .i64 (IntKind.wrap .i64 (s45.2.2 + 1))) rfl rfl (by decide) (q_assign rfl) ?_
                          refine GoOps.nil ?_
                          exact hagain46 _ _ _ h ⟨e84_1, e84_5, e84_7, rfl⟩
                      · intro j82 hj82 h
                        rcases bor s76 with hc80 | hc80
                        · have h := h.1 hc80
                          refine plan_skip (i := 22) (d := 208) (S2 := 8388607) rfl (by decide +kernel) (want_no rfl rfl rfl hc80) ?_
                          refine plan_skip (i := 23) (d := 209) (S2 := 16777215) rfl (by decide +kernel) (want_no rfl rfl rfl hc80) ?_
                          refine plan_skip (i := 24) (d := 210) (S2 := 33554431) rfl (by decide +kernel) (want_no rfl rfl rfl hc80) ?_
                          refine plan_skip (i := 25) (d := 211) (S2 := 67108863) rfl (by decide +kernel) (want_no rfl rfl rfl hc80) ?_
                          refine plan_skip (i := 26) (d := 212) (S2 := 134217727) rfl (by decide +kernel) (want_no rfl rfl rfl hc80) ?_
                          refine plan_skip (i := 27) (d := 213) (S2 := 268435455) rfl (by decide +kernel) (want_no rfl rfl rfl hc80) ?_
                          refine plan_skip (i := 28) (d := 214) (S2 := 536870911) rfl (by decide +kernel) (want_no rfl rfl rfl hc80) ?_
                          refine plan_pure (i := 29) (d := 215) (S2 := 1073741823) (v := .bool true) rfl (by decide +kernel) rfl (q_pickT (btT rfl hc80) rfl) ?_
                          refine plan_weaken (L2 := [27, 18, 8]) (by decide) ?_
                          exact hj82 _ _ _ h ⟨e79_1, e79_5, e79_7, e79_8, rfl⟩
                        · have h := h.2 hc80
                          refine plan_pure (i := 22) (d := 208) (S2 := 8388607) (v := .pointer s66.1) rfl (by decide +kernel) (want_yes rfl rfl rfl hc80) (q_move e79_5) ?_
                          refine plan_pure (i := 24) (d := 210) (S2 := 25165823) (v := .pointer s66.2) rfl (by decide +kernel) (want_yes rfl rfl rfl hc80) (q_move e79_7) ?_
                          obtain ⟨a86, ha87, h⟩ := h
                          refine plan_pure (i := 25) (d := 211) (S2 := 58720255) (v := .pointer (some a86)) rfl (by decide +kernel) (want_yes rfl rfl rfl hc80) (q_nilCheck (ptn rfl ha87)) ?_
                          refine plan_pure (i := 26) (d := 212) (S2 := 125829119) (v := .pointer (some (a86.add 4))) rfl (by decide +kernel) (want_yes rfl rfl rfl hc80) (q_fieldAddr foff64_4 rfl) ?_
                          obtain ⟨x88, hx89, h⟩ := h
                          refine plan_load (i := 27) (d := 213) (S2 := 260046847) (v := .bool x88) rfl (by decide +kernel) (want_yes rfl rfl rfl hc80) (q_load scalar4 rfl hx89) ?_
                          refine plan_one (j := 23) (S2 := 268435455) (by decide +kernel) rfl (by decide) (want_yes rfl rfl rfl hc80) ?_
                          refine do_call2 body21 (vdisk_Disk_Off_s _ _ _ h) rfl ?_
                          rintro _ H90 ⟨y91, rfl, h⟩
                          obtain ⟨hr92, h⟩ := h
                          refine ⟨_, (.inr ⟨⟨_, _, rfl, rfl, q_load scalar4 rfl hr92⟩, _, rfl, .inl ⟨⟨[19, 20, 21, 23], by decide +kernel, rfl⟩, .inl ⟨⟨[9, 10, 11, 12, 14, 21, 23], by decide +kernel, rfl⟩, rfl⟩⟩⟩), ?_⟩
                          refine plan_pure (i := 28) (d := 214) (S2 := 536870911) (v := .bool (y91 != x88)) rfl (by decide +kernel) (want_yes rfl rfl rfl hc80) (q_neqB Try.underlying4 rfl rfl) ?_
                          refine plan_pure (i := 29) (d := 215) (S2 := 1073741823) (v := .bool (y91 != x88)) rfl (by decide +kernel) rfl (q_pickF (btF rfl hc80) rfl) ?_
                          refine plan_weaken (L2 := [27, 18, 8]) (by decide) ?_
                          exact hj82 _ _ _ h ⟨e79_1, e79_5, e79_7, e79_8, rfl⟩
                    · intro j77 hj77 h
                      rcases bor s71 with hc75 | hc75
                      · have h := h.1 hc75
                        refine plan_skip (i := 13) (d := 199) (S2 := 16383) rfl (by decide +kernel) (want_no rfl rfl rfl hc75) ?_
                        refine plan_skip (i := 14) (d := 200) (S2 := 32767) rfl (by decide +kernel) (want_no rfl rfl rfl hc75) ?_
                        refine plan_skip (i := 15) (d := 201) (S2 := 65535) rfl (by decide +kernel) (want_no rfl rfl rfl hc75) ?_
                        refine plan_skip (i := 16) (d := 202) (S2 := 131071) rfl (by decide +kernel) (want_no rfl rfl rfl hc75) ?_
                        refine plan_skip (i := 17) (d := 203) (S2 := 262143) rfl (by decide +kernel) (want_no rfl rfl rfl hc75) ?_
                        refine plan_skip (i := 18) (d := 204) (S2 := 524287) rfl (by decide +kernel) (want_no rfl rfl rfl hc75) ?_
                        refine plan_skip (i := 19) (d := 205) (S2 := 1048575) rfl (by decide +kernel) (want_no rfl rfl rfl hc75) ?_
                        refine plan_pure (i := 20) (d := 206) (S2 := 2097151) (v := .bool true) rfl (by decide +kernel) rfl (q_pickT (btT rfl hc75) rfl) ?_
                        refine plan_weaken (L2 := [18, 8]) (by decide) ?_
                        exact hj77 _ _ _ h ⟨e74_1, e74_5, e74_7, e74_8, rfl⟩
                      · have h := h.2 hc75
                        refine plan_pure (i := 13) (d := 199) (S2 := 16383) (v := .pointer s66.1) rfl (by decide +kernel) (want_yes rfl rfl rfl hc75) (q_move e74_5) ?_
                        refine plan_pure (i := 15) (d := 201) (S2 := 49151) (v := .pointer s66.2) rfl (by decide +kernel) (want_yes rfl rfl rfl hc75) (q_move e74_7) ?_
                        obtain ⟨a93, ha94, h⟩ := h
                        refine plan_pure (i := 16) (d := 202) (S2 := 114687) (v := .pointer (some a93)) rfl (by decide +kernel) (want_yes rfl rfl rfl hc75) (q_nilCheck (ptn rfl ha94)) ?_
                        refine plan_pure (i := 17) (d := 203) (S2 := 245759) (v := .pointer (some (a93.add 5))) rfl (by decide +kernel) (want_yes rfl rfl rfl hc75) (q_fieldAddr foff64_5 rfl) ?_
                        obtain ⟨x95, hx96, h⟩ := h
                        refine plan_load (i := 18) (d := 204) (S2 := 507903) (v := .int .i64 x95) rfl (by decide +kernel) (want_yes rfl rfl rfl hc75) (q_load scalar3 rfl hx96) ?_
                        refine plan_one (j := 14) (S2 := 524287) (by decide +kernel) rfl (by decide) (want_yes rfl rfl rfl hc75) ?_
                        refine do_call2 body20 (vdisk_Disk_Acts_s _ _ _ h) rfl ?_
                        rintro _ H97 ⟨y98, rfl, h⟩
                        obtain ⟨hr99, h⟩ := h
                        refine ⟨_, (.inr ⟨⟨_, _, rfl, rfl, q_load scalar3 rfl hr99⟩, _, rfl, .inl ⟨⟨[9, 10, 11, 12, 14], by decide +kernel, rfl⟩, rfl⟩⟩), ?_⟩
                        refine plan_pure (i := 19) (d := 205) (S2 := 1048575) (v := .bool (y98 != x95)) rfl (by decide +kernel) (want_yes rfl rfl rfl hc75) (q_neq rfl rfl) ?_
                        refine plan_pure (i := 20) (d := 206) (S2 := 2097151) (v := .bool (y98 != x95)) rfl (by decide +kernel) rfl (q_pickF (btF rfl hc75) rfl) ?_
                        refine plan_weaken (L2 := [18, 8]) (by decide) ?_
                        exact hj77 _ _ _ h ⟨e74_1, e74_5, e74_7, e74_8, rfl⟩
                  · intro j72 hj72 h
                    rcases bor (Option.isNone s66.1) with hc70 | hc70
                    · have h := h.1 hc70
                      refine plan_skip (i := 3) (d := 189) (S2 := 15) rfl (by decide +kernel) (want_no rfl rfl rfl hc70) ?_
                      refine plan_skip (i := 4) (d := 190) (S2 := 31) rfl (by decide +kernel) (want_no rfl rfl rfl hc70) ?_
                      refine plan_skip (i := 5) (d := 191) (S2 := 63) rfl (by decide +kernel) (want_no rfl rfl rfl hc70) ?_
                      refine plan_skip (i := 6) (d := 192) (S2 := 127) rfl (by decide +kernel) (want_no rfl rfl rfl hc70) ?_
                      refine plan_skip (i := 7) (d := 193) (S2 := 255) rfl (by decide +kernel) (want_no rfl rfl rfl hc70) ?_
                      refine plan_skip (i := 8) (d := 194) (S2 := 511) rfl (by decide +kernel) (want_no rfl rfl rfl hc70) ?_
                      refine plan_skip (i := 9) (d := 195) (S2 := 1023) rfl (by decide +kernel) (want_no rfl rfl rfl hc70) ?_
                      refine plan_skip (i := 10) (d := 196) (S2 := 2047) rfl (by decide +kernel) (want_no rfl rfl rfl hc70) ?_
                      refine plan_pure (i := 11) (d := 197) (S2 := 4095) (v := .bool true) rfl (by decide +kernel) rfl (q_pickT (btT rfl hc70) rfl) ?_
                      refine plan_weaken (L2 := [8]) (by decide) ?_
                      exact hj72 _ _ _ h ⟨e69_1, e69_5, e69_7, e69_8, rfl⟩
                    · have h := h.2 hc70
                      refine plan_pure (i := 3) (d := 189) (S2 := 15) (v := .pointer s66.1) rfl (by decide +kernel) (want_yes rfl rfl rfl hc70) (q_move e69_5) ?_
                      refine plan_pure (i := 5) (d := 191) (S2 := 47) (v := .pointer s66.2) rfl (by decide +kernel) (want_yes rfl rfl rfl hc70) (q_move e69_7) ?_
                      obtain ⟨a100, ha101, h⟩ := h
                      refine plan_pure (i := 6) (d := 192) (S2 := 111) (v := .pointer (some a100)) rfl (by decide +kernel) (want_yes rfl rfl rfl hc70) (q_nilCheck (ptn rfl ha101)) ?_
                      refine plan_pure (i := 7) (d := 193) (S2 := 239) (v := .pointer (some (a100.add 1))) rfl (by decide +kernel) (want_yes rfl rfl rfl hc70) (q_fieldAddr foff64_1 rfl) ?_
                      obtain ⟨x102, hx103, h⟩ := h
                      refine plan_load (i := 8) (d := 194) (S2 := 495) (v := Sl.v x102) rfl (by decide +kernel) (want_yes rfl rfl rfl hc70) (q_load scalar61 rfl hx103) ?_
                      refine plan_pure (i := 9) (d := 195) (S2 := 1007) (v := .int .i64 (x102.len : Int)) rfl (by decide +kernel) (want_yes rfl rfl rfl hc70) (q_len Try.underlying61 rfl (ls1 rfl)) ?_
                      refine plan_one (j := 4) (S2 := 1023) (by decide +kernel) rfl (by decide) (want_yes rfl rfl rfl hc70) ?_
                      refine do_call2 body19 (vdisk_Disk_Held_s _ _ _ h) rfl ?_
                      rintro _ H104 ⟨y105, rfl, h⟩
                      obtain ⟨hr106, h⟩ := h
                      refine ⟨_, (.inr ⟨⟨_, _, rfl, rfl, q_load scalar61 rfl hr106⟩, _, rfl, rfl⟩), ?_⟩
                      refine plan_pure (i := 10) (d := 196) (S2 := 2047) (v := .bool (y105 != (x102.len : Int))) rfl (by decide +kernel) (want_yes rfl rfl rfl hc70) (q_neq rfl rfl) ?_
                      refine plan_pure (i := 11) (d := 197) (S2 := 4095) (v := .bool (y105 != (x102.len : Int))) rfl (by decide +kernel) rfl (q_pickF (btF rfl hc70) rfl) ?_
                      exact hj72 _ _ _ h ⟨e69_1, e69_5, e69_7, e69_8, rfl⟩
                · intro j67 hj67 h
                  refine Go.block ?_
                  refine Go.seq ?_
                  refine Go.region rfl ?_
                  refine GoOps.q (v := .bool (x64 == 1)) rfl rfl (by decide) (q_eql rfl rfl) ?_
                  refine GoOps.q (v := .bool (x64 == 1)) rfl rfl (by decide) (q_assign rfl) ?_
                  refine GoOps.nil ?_
                  rcases bor (x64 == 1) with hc107 | hc107
                  · have h := h.1 hc107
                    refine Go.condT (btT rfl hc107) ?_
                    refine Go.seq ?_
                    refine Go.draw mixed ?_
                    refine plan_pure (i := 0) (d := 77) (S2 := 1) (v := .pointer s45.1) rfl (by decide +kernel) rfl (q_move e47_5) ?_
                    refine plan_pure (i := 1) (d := 78) (S2 := 3) (v := .pointer (some (a54.add 1))) rfl (by decide +kernel) rfl (q_fieldAddr foff57_1 rfl) ?_
                    obtain ⟨x108, hx109, h⟩ := h
                    refine plan_load (i := 2) (d := 79) (S2 := 7) (v := .int .i64 x108) rfl (by decide +kernel) rfl (q_load scalar3 rfl hx109) ?_
                    refine plan_pure (i := 3) (d := 80) (S2 := 15) (v := .pointer (some (a54.add 2))) rfl (by decide +kernel) rfl (q_fieldAddr foff57_2 rfl) ?_
                    obtain ⟨x110, hx111, h⟩ := h
                    refine plan_load (i := 4) (d := 81) (S2 := 31) (v := .int .i64 x110) rfl (by decide +kernel) rfl (q_load scalar3 rfl hx111) ?_
                    refine plan_pure (i := 7) (d := 84) (S2 := 159) (v := .pointer s45.2.1) rfl (by decide +kernel) rfl (q_move e47_7) ?_
                    refine plan_pure (i := 8) (d := 85) (S2 := 415) (v := .pointer (some (a54.add 1))) rfl (by decide +kernel) rfl (q_fieldAddr foff57_1 rfl) ?_
                    obtain ⟨x112, hx113, h⟩ := h
                    refine plan_load (i := 9) (d := 86) (S2 := 927) (v := .int .i64 x112) rfl (by decide +kernel) rfl (q_load scalar3 rfl hx113) ?_
                    refine plan_pure (i := 10) (d := 87) (S2 := 1951) (v := .pointer (some (a54.add 2))) rfl (by decide +kernel) rfl (q_fieldAddr foff57_2 rfl) ?_
                    obtain ⟨x114, hx115, h⟩ := h
                    refine plan_load (i := 11) (d := 88) (S2 := 3999) (v := .int .i64 x114) rfl (by decide +kernel) rfl (q_load scalar3 rfl hx115) ?_
                    refine plan_one (j := 5) (S2 := 4031) (by decide +kernel) rfl (by decide) rfl ?_
                    refine do_call2 body12 (keelsonalike_Fill_s _ _ _ h) rfl ?_
                    rintro _ H116 ⟨y117, rfl, h⟩
                    obtain ⟨hr118, h⟩ := h
                    obtain ⟨hr119, h⟩ := h
                    obtain ⟨hr120, h⟩ := h
                    refine ⟨_, (.inr ⟨⟨_, _, rfl, rfl, q_load scalar3 rfl hr118⟩, _, rfl, .inr ⟨⟨_, _, rfl, rfl, q_load scalar3 rfl hr119⟩, _, rfl, .inl ⟨⟨[5], by decide +kernel, rfl⟩, .inr ⟨⟨_, _, rfl, rfl, q_load scalar3 rfl hr120⟩, _, rfl, rfl⟩⟩⟩⟩), ?_⟩
                    refine plan_one (j := 6) (S2 := 4095) (by decide +kernel) rfl (by decide) rfl ?_
                    refine do_call2 body11 (vdisk_Disk_Write_s _ _ _ _ _ h) rfl ?_
                    rintro _ H121 ⟨y122, rfl, h⟩
                    obtain ⟨hr123, h⟩ := h
                    obtain ⟨hr124, h⟩ := h
                    refine ⟨_, (.inr ⟨⟨_, _, rfl, rfl, q_load scalar3 rfl hr123⟩, _, rfl, .inr ⟨⟨_, _, rfl, rfl, q_load scalar3 rfl hr124⟩, _, rfl, .inl ⟨⟨[6], by decide +kernel, rfl⟩, rfl⟩⟩⟩), ?_⟩
                    refine plan_one (j := 12) (S2 := 8191) (by decide +kernel) rfl (by decide) rfl ?_
                    refine do_call2 body12 (keelsonalike_Fill_s _ _ _ h) rfl ?_
                    rintro _ H125 ⟨y126, rfl, h⟩
                    obtain ⟨hr127, h⟩ := h
                    refine ⟨_, (.inl ⟨⟨[12], by decide +kernel, rfl⟩, .inr ⟨⟨_, _, rfl, rfl, q_load scalar3 rfl hr127⟩, _, rfl, rfl⟩⟩), ?_⟩
                    refine plan_one (j := 13) (S2 := 16383) (by decide +kernel) rfl (by decide) rfl ?_
                    refine do_call2 body24 (keelsonref1_Disk_Write_s _ _ _ _ _ h) rfl ?_
                    rintro _ H128 ⟨y129, rfl, h⟩
                    refine ⟨_, (.inl ⟨⟨[13], by decide +kernel, rfl⟩, rfl⟩), ?_⟩
                    refine plan_pure (i := 14) (d := 91) (S2 := 32767) (v := .bool (y122 != y129)) rfl (by decide +kernel) rfl (q_neq rfl rfl) ?_
                    refine plan_done (by decide +kernel) ?_
                    rcases bor (y122 != y129) with hc130 | hc130
                    · have h := h.1 hc130
                      refine Go.condT (btT rfl hc130) ?_
                      refine Go.seq ?_
                      refine Go.region rfl ?_
                      refine GoOps.q (v := .bool false) rfl rfl (by decide) (q_assign rfl) ?_
                      refine GoOps.nil ?_
                      exact Go.ret ⟨.inl rfl, _, _, DOk.nil, (resOk1 Try.results8 rfl), ⟨_, rfl, h⟩⟩
                    · have h := h.2 hc130
                      refine Go.condF (btF rfl hc130) ?_
                      refine Go.skip ?_
                      refine Go.inBlock ?_
                      exact hj67 _ _ _ h ⟨e47_1, e47_5, e47_7, e47_8⟩
                  · have h := h.2 hc107
                    refine Go.condF (btF rfl hc107) ?_
                    refine Go.seq ?_
                    refine Go.region rfl ?_
                    refine GoOps.q (v := .bool (x64 == 2)) rfl rfl (by decide) (q_eql rfl rfl) ?_
                    refine GoOps.q (v := .bool (x64 == 2)) rfl rfl (by decide) (q_assign rfl) ?_
                    refine GoOps.nil ?_
                    rcases bor (x64 == 2) with hc131 | hc131
                    · have h := h.1 hc131
                      refine Go.condT (btT rfl hc131) ?_
                      refine Go.seq ?_
                      refine Go.region rfl ?_
                      refine GoOps.q (v := .pointer s45.1) rfl rfl (by decide) (q_move e47_5) ?_
                      refine call_dst rfl (by decide) body18 (vdisk_Disk_Flush_s _ _ _ h) rfl ?_
                      rintro _ H132 ⟨y133, rfl, h⟩
                      refine GoOps.q (v := .pointer s45.2.1) rfl rfl (by decide) (q_move e47_7) ?_
                      refine call_dst rfl (by decide) body26 (keelsonref1_Disk_Flush_s _ _ _ h) rfl ?_
                      rintro _ H134 ⟨y135, rfl, h⟩
                      refine GoOps.q (v := .bool (y133 != y135)) rfl rfl (by decide) (q_neq rfl rfl) ?_
                      refine GoOps.nil ?_
                      rcases bor (y133 != y135) with hc136 | hc136
                      · have h := h.1 hc136
                        refine Go.condT (btT rfl hc136) ?_
                        refine Go.seq ?_
                        refine Go.region rfl ?_
                        refine GoOps.q (v := .bool false) rfl rfl (by decide) (q_assign rfl) ?_
                        refine GoOps.nil ?_
                        exact Go.ret ⟨.inl rfl, _, _, DOk.nil, (resOk1 Try.results8 rfl), ⟨_, rfl, h⟩⟩
                      · have h := h.2 hc136
                        refine Go.condF (btF rfl hc136) ?_
                        refine Go.skip ?_
                        refine Go.inBlock ?_
                        exact hj67 _ _ _ h ⟨e47_1, e47_5, e47_7, e47_8⟩
                    · have h := h.2 hc131
                      refine Go.condF (btF rfl hc131) ?_
                      refine Go.seq ?_
                      refine Go.region rfl ?_
                      refine GoOps.q (v := .bool (x64 == 3)) rfl rfl (by decide) (q_eql rfl rfl) ?_
                      refine GoOps.q (v := .bool (x64 == 3)) rfl rfl (by decide) (q_assign rfl) ?_
                      refine GoOps.nil ?_
                      rcases bor (x64 == 3) with hc137 | hc137
                      · have h := h.1 hc137
                        refine Go.condT (btT rfl hc137) ?_
                        refine Go.seq ?_
                        refine Go.region rfl ?_
                        refine GoOps.q (v := .pointer s45.1) rfl rfl (by decide) (q_move e47_5) ?_
                        refine GoOps.q (v := .pointer (some (a54.add 1))) rfl rfl (by decide) (q_fieldAddr foff57_1 rfl) ?_
                        obtain ⟨x138, hx139, h⟩ := h
                        refine GoOps.q (v := .int .i64 x138) rfl rfl (by decide) (q_load scalar3 rfl hx139) ?_
                        refine call_dst rfl (by decide) body14 (vdisk_Disk_Read_s _ _ _ _ h) rfl ?_
                        rintro _ H140 ⟨y141, y142, rfl, h⟩
                        refine GoOps.q (v := .tuple #[Sl.v y141, .int .i64 y142]) rfl rfl (by decide) (q_move rfl) ?_
                        refine GoOps.q (v := Sl.v y141) rfl rfl (by decide) (q_extract rfl rfl) ?_
                        refine GoOps.q (v := .int .i64 y142) rfl rfl (by decide) (q_extract rfl rfl) ?_
                        refine GoOps.q (v := Sl.v y141) rfl rfl (by decide) (q_assign rfl) ?_
                        refine GoOps.q (v := .int .i64 y142) rfl rfl (by decide) (q_assign rfl) ?_
                        refine GoOps.nil ?_
                        refine Go.seq ?_
                        refine Go.region rfl ?_
                        refine GoOps.q (v := .pointer s45.2.1) rfl rfl (by decide) (q_move e47_7) ?_
                        refine GoOps.q (v := .pointer (some (a54.add 1))) rfl rfl (by decide) (q_fieldAddr foff57_1 rfl) ?_
                        obtain ⟨x143, hx144, h⟩ := h
                        refine GoOps.q (v := .int .i64 x143) rfl rfl (by decide) (q_load scalar3 rfl hx144) ?_
                        refine call_dst rfl (by decide) body29 (keelsonref1_Disk_Read_s _ _ _ _ h) rfl ?_
                        rintro _ H145 ⟨y146, y147, rfl, h⟩
                        refine GoOps.q (v := .tuple #[Sl.v y146, .int .i64 y147]) rfl rfl (by decide) (q_move rfl) ?_
                        refine GoOps.q (v := Sl.v y146) rfl rfl (by decide) (q_extract rfl rfl) ?_
                        refine GoOps.q (v := .int .i64 y147) rfl rfl (by decide) (q_extract rfl rfl) ?_
                        refine GoOps.q (v := Sl.v y146) rfl rfl (by decide) (q_assign rfl) ?_
                        refine GoOps.q (v := .int .i64 y147) rfl rfl (by decide) (q_assign rfl) ?_
                        refine GoOps.nil ?_
                        refine Go.seq ?_
                        refine Go.region rfl ?_
                        refine GoOps.q (v := .int .i64 y142) rfl rfl (by decide) (q_move rfl) ?_
                        refine GoOps.q (v := .int .i64 y147) rfl rfl (by decide) (q_move rfl) ?_
                        refine GoOps.q (v := .bool (y142 != y147)) rfl rfl (by decide) (q_neq rfl rfl) ?_
                        refine GoOps.q (v := .bool (y142 != y147)) rfl rfl (by decide) (q_move rfl) ?_
                        refine join_ops 5 (fun ρ (s149 : Bool) => ρ 1 = Sl.v p1 ∧ ρ 5 = .pointer s45.1 ∧ ρ 7 = .pointer s45.2.1 ∧ ρ 8 = .int .i64 s45.2.2 ∧ ρ 123 = .bool s149) h ?_ ?_ <;> clear h
                        · intro s149 H151 ρ h hE
                          obtain ⟨e152_1, e152_5, e152_7, e152_8, e152_123⟩ := hE
                          refine GoOps.nil ?_
                          rcases bor s149 with hc153 | hc153
                          · have h := h.1 hc153
                            refine Go.condT (btT e152_123 hc153) ?_
                            refine Go.seq ?_
                            refine Go.region rfl ?_
                            refine GoOps.q (v := .bool false) rfl rfl (by decide) (q_assign rfl) ?_
                            refine GoOps.nil ?_
                            exact Go.ret ⟨.inl rfl, _, _, DOk.nil, (resOk1 Try.results8 rfl), ⟨_, rfl, h⟩⟩
                          · have h := h.2 hc153
                            refine Go.condF (btF e152_123 hc153) ?_
                            refine Go.skip ?_
                            refine Go.inBlock ?_
                            exact hj67 _ _ _ h ⟨e152_1, e152_5, e152_7, e152_8⟩
                        · intro j150 hj150 h
                          rcases bor (y142 != y147) with hc148 | hc148
                          · have h := h.1 hc148
                            refine no_dst (want_no rfl rfl rfl hc148) rfl (by decide) ?_
                            refine no_dst (want_no rfl rfl rfl hc148) rfl (by decide) ?_
                            refine no_dst (want_no rfl rfl rfl hc148) rfl (by decide) ?_
                            refine no_dst (want_no rfl rfl rfl hc148) rfl (by decide) ?_
                            refine GoOps.q (v := .bool true) rfl rfl (by decide) (q_pickT (btT rfl hc148) rfl) ?_
                            exact hj150 true _ _ h (by exact ⟨e47_1, e47_5, e47_7, e47_8, rfl⟩)
                          · have h := h.2 hc148
                            refine GoOps.q (v := Sl.v y141) (want_yes rfl rfl rfl hc148) rfl (by decide) (q_move rfl) ?_
                            refine GoOps.q (v := Sl.v y146) (want_yes rfl rfl rfl hc148) rfl (by decide) (q_move rfl) ?_
                            refine call_dst (want_yes rfl rfl rfl hc148) (by decide) body15 (keelsonalike_Bytes_s _ _ _ _ h) rfl ?_
                            rintro _ H154 ⟨y155, rfl, h⟩
                            refine GoOps.q (v := .bool (!y155)) (want_yes rfl rfl rfl hc148) rfl (by decide) (q_not rfl) ?_
                            refine GoOps.q (v := .bool (!y155)) rfl rfl (by decide) (q_pickF (btF rfl hc148) rfl) ?_
                            exact hj150 (!y155) _ _ h (by exact ⟨e47_1, e47_5, e47_7, e47_8, rfl⟩)
                      · have h := h.2 hc137
                        refine Go.condF (btF rfl hc137) ?_
                        refine Go.seq ?_
                        refine Go.region rfl ?_
                        refine GoOps.q (v := .bool (x64 == 4)) rfl rfl (by decide) (q_eql rfl rfl) ?_
                        refine GoOps.q (v := .bool (x64 == 4)) rfl rfl (by decide) (q_assign rfl) ?_
                        refine GoOps.nil ?_
                        rcases bor (x64 == 4) with hc156 | hc156
                        · have h := h.1 hc156
                          refine Go.condT (btT rfl hc156) ?_
                          refine Go.seq ?_
                          refine Go.region rfl ?_
                          refine GoOps.q (v := .pointer s45.1) rfl rfl (by decide) (q_move e47_5) ?_
                          refine GoOps.q (v := .pointer (some (a54.add 1))) rfl rfl (by decide) (q_fieldAddr foff57_1 rfl) ?_
                          obtain ⟨x157, hx158, h⟩ := h
                          refine GoOps.q (v := .int .i64 x157) rfl rfl (by decide) (q_load scalar3 rfl hx158) ?_
                          refine call_dst rfl (by decide) body22 (vdisk_Disk_Fuse_s _ _ _ _ h) rfl ?_
                          rintro _ H159 ⟨rfl, h⟩
                          refine GoOps.nil ?_
                          refine Go.region rfl ?_
                          refine GoOps.q (v := .pointer s45.2.1) rfl rfl (by decide) (q_move e47_7) ?_
                          refine GoOps.q (v := .pointer (some (a54.add 1))) rfl rfl (by decide) (q_fieldAddr foff57_1 rfl) ?_
                          obtain ⟨x160, hx161, h⟩ := h
                          refine GoOps.q (v := .int .i64 x160) rfl rfl (by decide) (q_load scalar3 rfl hx161) ?_
                          refine call_dst rfl (by decide) body30 (keelsonref1_Disk_Fuse_s _ _ _ _ h) rfl ?_
                          rintro _ H162 ⟨rfl, h⟩
                          refine GoOps.nil ?_
                          refine Go.inBlock ?_
                          exact hj67 _ _ _ h ⟨e47_1, e47_5, e47_7, e47_8⟩
                        · have h := h.2 hc156
                          refine Go.condF (btF rfl hc156) ?_
                          refine Go.seq ?_
                          refine Go.region rfl ?_
                          refine GoOps.q (v := .bool (x64 == 5)) rfl rfl (by decide) (q_eql rfl rfl) ?_
                          refine GoOps.q (v := .bool (x64 == 5)) rfl rfl (by decide) (q_assign rfl) ?_
                          refine GoOps.nil ?_
                          rcases bor (x64 == 5) with hc163 | hc163
                          · have h := h.1 hc163
                            refine Go.condT (btT rfl hc163) ?_
                            refine Go.seq ?_
                            refine Go.draw mixed ?_
                            refine plan_pure (i := 0) (d := 136) (S2 := 1) (v := .pointer s45.1) rfl (by decide +kernel) rfl (q_move e47_5) ?_
                            refine plan_pure (i := 1) (d := 137) (S2 := 3) (v := .pointer (some (a54.add 1))) rfl (by decide +kernel) rfl (q_fieldAddr foff57_1 rfl) ?_
                            obtain ⟨x164, hx165, h⟩ := h
                            refine plan_load (i := 2) (d := 138) (S2 := 7) (v := .int .i64 x164) rfl (by decide +kernel) rfl (q_load scalar3 rfl hx165) ?_
                            refine plan_pure (i := 3) (d := 139) (S2 := 15) (v := .pointer (some (a54.add 2))) rfl (by decide +kernel) rfl (q_fieldAddr foff57_2 rfl) ?_
                            obtain ⟨x166, hx167, h⟩ := h
                            refine plan_load (i := 4) (d := 140) (S2 := 31) (v := .int .i64 x166) rfl (by decide +kernel) rfl (q_load scalar3 rfl hx167) ?_
                            refine plan_pure (i := 5) (d := 141) (S2 := 63) (v := .int .i64 (iand .i64 x166 1)) rfl (by decide +kernel) rfl (q_and rfl rfl) ?_
                            refine plan_pure (i := 6) (d := 142) (S2 := 127) (v := .bool ((iand .i64 x166 1) == 1)) rfl (by decide +kernel) rfl (q_eql rfl rfl) ?_
                            refine plan_pure (i := 8) (d := 144) (S2 := 383) (v := .pointer s45.2.1) rfl (by decide +kernel) rfl (q_move e47_7) ?_
                            refine plan_pure (i := 9) (d := 145) (S2 := 895) (v := .pointer (some (a54.add 1))) rfl (by decide +kernel) rfl (q_fieldAddr foff57_1 rfl) ?_
                            obtain ⟨x168, hx169, h⟩ := h
                            refine plan_load (i := 10) (d := 146) (S2 := 1919) (v := .int .i64 x168) rfl (by decide +kernel) rfl (q_load scalar3 rfl hx169) ?_
                            refine plan_pure (i := 11) (d := 147) (S2 := 3967) (v := .pointer (some (a54.add 2))) rfl (by decide +kernel) rfl (q_fieldAddr foff57_2 rfl) ?_
                            obtain ⟨x170, hx171, h⟩ := h
                            refine plan_load (i := 12) (d := 148) (S2 := 8063) (v := .int .i64 x170) rfl (by decide +kernel) rfl (q_load scalar3 rfl hx171) ?_
                            refine plan_pure (i := 13) (d := 149) (S2 := 16255) (v := .int .i64 (iand .i64 x170 1)) rfl (by decide +kernel) rfl (q_and rfl rfl) ?_
                            refine plan_pure (i := 14) (d := 150) (S2 := 32639) (v := .bool ((iand .i64 x170 1) == 1)) rfl (by decide +kernel) rfl (q_eql rfl rfl) ?_
                            refine plan_one (j := 7) (S2 := 32767) (by decide +kernel) rfl (by decide) rfl ?_
                            refine do_call2 body13 (vdisk_Disk_Fault_s _ _ _ _ _ h) rfl ?_
                            rintro _ H172 ⟨y173, rfl, h⟩
                            obtain ⟨hr174, h⟩ := h
                            obtain ⟨hr175, h⟩ := h
                            refine ⟨_, (.inr ⟨⟨_, _, rfl, rfl, q_load scalar3 rfl hr174⟩, _, rfl, .inr ⟨⟨_, _, rfl, rfl, q_load scalar3 rfl hr175⟩, _, rfl, .inl ⟨⟨[5, 6, 7], by decide +kernel, rfl⟩, .inl ⟨⟨[7], by decide +kernel, rfl⟩, rfl⟩⟩⟩⟩), ?_⟩
                            refine plan_one (j := 15) (S2 := 65535) (by decide +kernel) rfl (by decide) rfl ?_
                            refine do_call2 body31 (keelsonref1_Disk_Fault_s _ _ _ _ _ h) rfl ?_
                            rintro _ H176 ⟨y177, rfl, h⟩
                            refine ⟨_, (.inl ⟨⟨[13, 14, 15], by decide +kernel, rfl⟩, .inl ⟨⟨[15], by decide +kernel, rfl⟩, rfl⟩⟩), ?_⟩
                            refine plan_pure (i := 16) (d := 152) (S2 := 131071) (v := .bool (y173 != y177)) rfl (by decide +kernel) rfl (q_neq rfl rfl) ?_
                            refine plan_done (by decide +kernel) ?_
                            rcases bor (y173 != y177) with hc178 | hc178
                            · have h := h.1 hc178
                              refine Go.condT (btT rfl hc178) ?_
                              refine Go.seq ?_
                              refine Go.region rfl ?_
                              refine GoOps.q (v := .bool false) rfl rfl (by decide) (q_assign rfl) ?_
                              refine GoOps.nil ?_
                              exact Go.ret ⟨.inl rfl, _, _, DOk.nil, (resOk1 Try.results8 rfl), ⟨_, rfl, h⟩⟩
                            · have h := h.2 hc178
                              refine Go.condF (btF rfl hc178) ?_
                              refine Go.skip ?_
                              refine Go.inBlock ?_
                              exact hj67 _ _ _ h ⟨e47_1, e47_5, e47_7, e47_8⟩
                          · have h := h.2 hc163
                            refine Go.condF (btF rfl hc163) ?_
                            refine Go.seq ?_
                            refine Go.region rfl ?_
                            refine GoOps.q (v := .bool (x64 == 6)) rfl rfl (by decide) (q_eql rfl rfl) ?_
                            refine GoOps.q (v := .bool (x64 == 6)) rfl rfl (by decide) (q_assign rfl) ?_
                            refine GoOps.nil ?_
                            rcases bor (x64 == 6) with hc179 | hc179
                            · have h := h.1 hc179
                              refine Go.condT (btT rfl hc179) ?_
                              refine Go.seq ?_
                              refine Go.region rfl ?_
                              refine GoOps.q (v := .pointer s45.1) rfl rfl (by decide) (q_move e47_5) ?_
                              refine GoOps.q (v := .pointer (some (a54.add 3))) rfl rfl (by decide) (q_fieldAddr foff57_3 rfl) ?_
                              obtain ⟨x180, hx181, h⟩ := h
                              refine GoOps.q (v := Sl.v x180) rfl rfl (by decide) (q_load scalar37 rfl hx181) ?_
                              refine call_dst rfl (by decide) body16 (vdisk_Disk_Crash_s _ _ _ _ h) rfl ?_
                              rintro _ H182 ⟨y183, rfl, h⟩
                              refine GoOps.q (v := .pointer y183) rfl rfl (by decide) (q_assign rfl) ?_
                              refine GoOps.nil ?_
                              refine Go.seq ?_
                              refine Go.region rfl ?_
                              refine GoOps.q (v := .pointer s45.2.1) rfl rfl (by decide) (q_move e47_7) ?_
                              refine GoOps.q (v := .pointer (some (a54.add 3))) rfl rfl (by decide) (q_fieldAddr foff57_3 rfl) ?_
                              obtain ⟨x184, hx185, h⟩ := h
                              refine GoOps.q (v := Sl.v x184) rfl rfl (by decide) (q_load scalar37 rfl hx185) ?_
                              refine call_dst rfl (by decide) body25 (keelsonref1_Disk_Crash_s _ _ _ _ h) rfl ?_
                              rintro _ H186 ⟨y187, rfl, h⟩
                              refine GoOps.q (v := .pointer y187) rfl rfl (by decide) (q_assign rfl) ?_
                              refine GoOps.nil ?_
                              refine Go.seq ?_
                              refine Go.seq ?_
                              refine Go.region rfl ?_
                              refine GoOps.q (v := .pointer s45.1) rfl rfl (by decide) (q_move e47_5) ?_
                              refine GoOps.q (v := .pointer s45.2.1) rfl rfl (by decide) (q_move e47_7) ?_
                              refine call_dst rfl (by decide) body27 (keelsonkit_Same_s _ _ _ _ h) rfl ?_
                              rintro _ H188 ⟨y189, rfl, h⟩
                              refine GoOps.q (v := .bool (!y189)) rfl rfl (by decide) (q_not rfl) ?_
                              refine GoOps.nil ?_
                              rcases bor (!y189) with hc190 | hc190
                              · have h := h.1 hc190
                                refine Go.condT (btT rfl hc190) ?_
                                refine Go.seq ?_
                                refine Go.region rfl ?_
                                refine GoOps.q (v := .bool false) rfl rfl (by decide) (q_assign rfl) ?_
                                refine GoOps.nil ?_
                                exact Go.ret ⟨.inl rfl, _, _, DOk.nil, (resOk1 Try.results8 rfl), ⟨_, rfl, h⟩⟩
                              · have h := h.2 hc190
                                refine Go.condF (btF rfl hc190) ?_
                                refine Go.skip ?_
                                refine Go.region rfl ?_
                                refine GoOps.q (v := .pointer y183) rfl rfl (by decide) (q_move rfl) ?_
                                refine GoOps.q (v := .pointer y187) rfl rfl (by decide) (q_move rfl) ?_
                                refine GoOps.q (v := .pointer y183) rfl rfl (by decide) (q_assign rfl) ?_
                                refine GoOps.q (v := .pointer y187) rfl rfl (by decide) (q_assign rfl) ?_
                                refine GoOps.nil ?_
                                refine Go.inBlock ?_
                                exact hj67 _ _ _ h ⟨e47_1, rfl, rfl, e47_8⟩
                            · have h := h.2 hc179
                              refine Go.condF (btF rfl hc179) ?_
                              refine Go.seq ?_
                              refine Go.region rfl ?_
                              refine GoOps.q (v := .bool (x64 == 7)) rfl rfl (by decide) (q_eql rfl rfl) ?_
                              refine GoOps.q (v := .bool (x64 == 7)) rfl rfl (by decide) (q_assign rfl) ?_
                              refine GoOps.nil ?_
                              rcases bor (x64 == 7) with hc191 | hc191
                              · have h := h.1 hc191
                                refine Go.condT (btT rfl hc191) ?_
                                refine Go.seq ?_
                                refine Go.region rfl ?_
                                refine GoOps.q (v := .pointer (some (a54.add 2))) rfl rfl (by decide) (q_fieldAddr foff57_2 rfl) ?_
                                obtain ⟨x192, hx193, h⟩ := h
                                refine GoOps.q (v := .int .i64 x192) rfl rfl (by decide) (q_load scalar3 rfl hx193) ?_
                                refine call_dst rfl (by decide) body9 (keelsonalike_Round_s _ _ _ _ h) rfl ?_
                                rintro _ H194 ⟨y195, rfl, h⟩
                                obtain ⟨hm199, h⟩ := h
                                refine op_dst rfl rfl (by decide) (do_mk (zs := [.int .u8 0]) slice28 bytes5 (by decide) zero5 rfl rfl (by decide) rfl rfl hm199 fun r196 H197 hb198 => ?_) 
                                have h := h r196 H197 hb198
                                refine GoOps.q (v := Sl.v r196) rfl rfl (by decide) (q_assign rfl) ?_
                                refine GoOps.nil ?_
                                refine Go.seq ?_
                                refine Go.draw mixed ?_
                                refine plan_pure (i := 0) (d := 175) (S2 := 1) (v := .pointer s45.1) rfl (by decide +kernel) rfl (q_move e47_5) ?_
                                refine plan_pure (i := 1) (d := 176) (S2 := 3) (v := .pointer (some (a54.add 1))) rfl (by decide +kernel) rfl (q_fieldAddr foff57_1 rfl) ?_
                                obtain ⟨x200, hx201, h⟩ := h
                                refine plan_load (i := 2) (d := 177) (S2 := 7) (v := .int .i64 x200) rfl (by decide +kernel) rfl (q_load scalar3 rfl hx201) ?_
                                refine plan_pure (i := 3) (d := 178) (S2 := 15) (v := Sl.v r196) rfl (by decide +kernel) rfl (q_move rfl) ?_
                                refine plan_pure (i := 5) (d := 180) (S2 := 47) (v := .pointer s45.2.1) rfl (by decide +kernel) rfl (q_move e47_7) ?_
                                refine plan_pure (i := 6) (d := 181) (S2 := 111) (v := .pointer (some (a54.add 1))) rfl (by decide +kernel) rfl (q_fieldAddr foff57_1 rfl) ?_
                                obtain ⟨x202, hx203, h⟩ := h
                                refine plan_load (i := 7) (d := 182) (S2 := 239) (v := .int .i64 x202) rfl (by decide +kernel) rfl (q_load scalar3 rfl hx203) ?_
                                refine plan_pure (i := 8) (d := 183) (S2 := 495) (v := Sl.v r196) rfl (by decide +kernel) rfl (q_move rfl) ?_
                                refine plan_one (j := 4) (S2 := 511) (by decide +kernel) rfl (by decide) rfl ?_
                                refine do_call2 body11 (vdisk_Disk_Write_s _ _ _ _ _ h) rfl ?_
                                rintro _ H204 ⟨y205, rfl, h⟩
                                obtain ⟨hr206, h⟩ := h
                                refine ⟨_, (.inr ⟨⟨_, _, rfl, rfl, q_load scalar3 rfl hr206⟩, _, rfl, .inl ⟨⟨[4], by decide +kernel, rfl⟩, rfl⟩⟩), ?_⟩
                                refine plan_one (j := 9) (S2 := 1023) (by decide +kernel) rfl (by decide) rfl ?_
                                refine do_call2 body24 (keelsonref1_Disk_Write_s _ _ _ _ _ h) rfl ?_
                                rintro _ H207 ⟨y208, rfl, h⟩
                                refine ⟨_, (.inl ⟨⟨[9], by decide +kernel, rfl⟩, rfl⟩), ?_⟩
                                refine plan_pure (i := 10) (d := 185) (S2 := 2047) (v := .bool (y205 != y208)) rfl (by decide +kernel) rfl (q_neq rfl rfl) ?_
                                refine plan_done (by decide +kernel) ?_
                                rcases bor (y205 != y208) with hc209 | hc209
                                · have h := h.1 hc209
                                  refine Go.condT (btT rfl hc209) ?_
                                  refine Go.seq ?_
                                  refine Go.region rfl ?_
                                  refine GoOps.q (v := .bool false) rfl rfl (by decide) (q_assign rfl) ?_
                                  refine GoOps.nil ?_
                                  exact Go.ret ⟨.inl rfl, _, _, DOk.nil, (resOk1 Try.results8 rfl), ⟨_, rfl, h⟩⟩
                                · have h := h.2 hc209
                                  refine Go.condF (btF rfl hc209) ?_
                                  refine Go.skip ?_
                                  refine Go.inBlock ?_
                                  exact hj67 _ _ _ h ⟨e47_1, e47_5, e47_7, e47_8⟩
                              · have h := h.2 hc191
                                refine Go.condF (btF rfl hc191) ?_
                                refine Go.skip ?_
                                refine Go.inBlock ?_
                                exact hj67 _ _ _ h ⟨e47_1, e47_5, e47_7, e47_8⟩
            · have h := h.2 hc49
              refine Go.condF (btF rfl hc49) ?_
              refine Go.exit rfl ?_
              refine Go.seq ?_
              refine Go.region rfl ?_
              refine GoOps.q (v := .pointer s45.1) rfl rfl (by decide) (q_move e47_5) ?_
              refine GoOps.q (v := .pointer s45.2.1) rfl rfl (by decide) (q_move e47_7) ?_
              refine call_dst rfl (by decide) body27 (keelsonkit_Same_s _ _ _ _ h) rfl ?_
              rintro _ H210 ⟨y211, rfl, h⟩
              refine GoOps.q (v := .bool y211) rfl rfl (by decide) (q_move rfl) ?_
              refine join_ops 2 (fun ρ (s213 : Bool) => ρ 221 = .bool s213) h ?_ ?_ <;> clear h
              · intro s213 H215 ρ h hE
                have e216_221 := hE
                refine GoOps.q (v := .bool s213) rfl rfl (by decide) (q_assign e216_221) ?_
                refine GoOps.nil ?_
                exact Go.ret ⟨.inl rfl, _, _, DOk.nil, (resOk1 Try.results8 rfl), ⟨_, rfl, h⟩⟩
              · intro j214 hj214 h
                rcases bor y211 with hc212 | hc212
                · have h := h.1 hc212
                  refine call_dst (want_yes rfl rfl rfl hc212) (by decide) body17 (keelsonlaw3_awake_s _ _ h) rfl ?_
                  rintro _ H217 ⟨y218, rfl, h⟩
                  refine GoOps.q (v := .bool y218) rfl rfl (by decide) (q_pickT (btT rfl hc212) rfl) ?_
                  exact hj214 y218 _ _ h (by exact rfl)
                · have h := h.2 hc212
                  refine no_dst (want_no rfl rfl rfl hc212) rfl (by decide) ?_
                  refine GoOps.q (v := .bool false) rfl rfl (by decide) (q_pickF (btF rfl hc212) rfl) ?_
                  exact hj214 false _ _ h (by exact rfl)
        · intro j29 hj29 h
          rcases bor s23 with hc27 | hc27
          · have h := h.1 hc27
            refine no_dst (want_no rfl rfl rfl hc27) rfl (by decide) ?_
            refine no_dst (want_no rfl rfl rfl hc27) rfl (by decide) ?_
            refine GoOps.q (v := .bool true) rfl rfl (by decide) (q_pickT (btT rfl hc27) rfl) ?_
            exact hj29 true _ _ h (by exact ⟨e26_1, e26_5, e26_6, e26_7, rfl⟩)
          · have h := h.2 hc27
            refine GoOps.q (v := .int .i64 p0) (want_yes rfl rfl rfl hc27) rfl (by decide) (q_move e26_0) ?_
            refine GoOps.q (v := .bool (decide (300 < p0))) (want_yes rfl rfl rfl hc27) rfl (by decide) (q_gtr rfl rfl) ?_
            refine GoOps.q (v := .bool (decide (300 < p0))) rfl rfl (by decide) (q_pickF (btF rfl hc27) rfl) ?_
            exact hj29 (decide (300 < p0)) _ _ h (by exact ⟨e26_1, e26_5, e26_6, e26_7, rfl⟩)
      · intro j24 hj24 h
        rcases bor (y6 != 0) with hc22 | hc22
        · have h := h.1 hc22
          refine no_dst (want_no rfl rfl rfl hc22) rfl (by decide) ?_
          refine no_dst (want_no rfl rfl rfl hc22) rfl (by decide) ?_
          refine GoOps.q (v := .bool true) rfl rfl (by decide) (q_pickT (btT rfl hc22) rfl) ?_
          exact hj24 true _ _ h (by exact ⟨rfl, rfl, rfl, rfl, rfl, rfl⟩)
        · have h := h.2 hc22
          refine GoOps.q (v := .pointer y5) (want_yes rfl rfl rfl hc22) rfl (by decide) (q_move rfl) ?_
          refine GoOps.q (v := .bool (Option.isNone y5)) (want_yes rfl rfl rfl hc22) rfl (by decide) (q_eqlPn Try.underlying23 rfl rfl) ?_
          refine GoOps.q (v := .bool (Option.isNone y5)) rfl rfl (by decide) (q_pickF (btF rfl hc22) rfl) ?_
          exact hj24 (Option.isNone y5) _ _ h (by exact ⟨rfl, rfl, rfl, rfl, rfl, rfl⟩)


end Go.Proofs.Ytdoldlinaghfbaa

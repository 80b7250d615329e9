import Derived.Test.YtgnnfafidhfhfaaFnp1
set_option linter.unusedVariables false
set_option linter.unusedSimpArgs false
namespace Go.Proofs.Ytgnnfafidhfhfaa
open Go Go.Kx Go.Proofs
/-- (*keelson.paged.Paged[string]).Dirty -/
def paged_Paged_string_Dirty (p0 : Option Addr) (H : PH) (Q : Value → PH → Prop) : Prop :=
  mNew H (row [.pointer p0] 36) fun a1 H2 =>
  Q (.func (.func 32) #[] #[.pointer (some a1)]) H2

set_option maxRecDepth 20000 in
set_option maxHeartbeats 1000000 in
theorem paged_Paged_string_Dirty_s (p0 : Option Addr) (H : PH) (Q : Value → PH → Prop) (h : paged_Paged_string_Dirty p0 H Q) :
    CallsH Try.prog 19 #[.pointer p0] H (fun v H' => ∃ (r0 : Value), v = r0 ∧ Q r0 H') := by
  unfold paged_Paged_string_Dirty at h
  refine callsH_of_go Try.func19 rfl Try.ntmps19 (Nat.le_of_ble_eq_true rfl) ?_
  refine Go.seq ?_
  refine Go.region rfl ?_
  refine op_dst rfl rfl (by decide) (do_newBox (cs := [.pointer p0]) rfl rfl fun a1 H2 hb3 => ?_) 
  have h := h a1 H2 hb3
  refine GoOps.q (v := .nilFunc) rfl rfl (by decide) (q_assign rfl) ?_
  refine GoOps.nil ?_
  refine Go.seq ?_
  refine Go.region rfl ?_
  refine GoOps.q (v := (.func (.func 32) #[] #[.pointer (some a1)])) rfl rfl (by decide) (q_makeFunc rfl rfl) ?_
  refine GoOps.q (v := (.func (.func 32) #[] #[.pointer (some a1)])) rfl rfl (by decide) (q_assign rfl) ?_
  refine GoOps.nil ?_
  exact Go.ret ⟨.inl rfl, _, _, DOk.nil, (resOk1 Try.results19 rfl), ⟨_, rfl, h⟩⟩

/-- keelson.keelsonlaw11.PagedTexts -/
def keelsonlaw11_PagedTexts (p0 : Int) (p1 : Int) (p2 : Sl) (H : PH) (Q : Bool → PH → Prop) : Prop :=
  mJoin (fun (s2 : Bool) (H4 : PH) =>
  mJoin (fun (s7 : Bool) (H9 : PH) =>
  mJoin (fun (s12 : Bool) (H14 : PH) =>
  mJoin (fun (s17 : Bool) (H19 : PH) =>
  mIf s17
  (keelsonlaw11_awake H19 fun y23 H22 =>
  Q y23 H22)
  (mNewS H19 (row [.string (⟨#[]⟩ : ByteArray), .string (⟨#[97]⟩ : ByteArray), .string (⟨#[98]⟩ : ByteArray), .string (⟨#[99]⟩ : ByteArray)] 9) 4 fun r24 H25 =>
  paged_New_int p0 p1 0 H25 fun y28 H27 =>
  paged_New_string p0 p1 (⟨#[]⟩ : ByteArray) H27 fun y30 H29 =>
  mJoin (fun (s32 : Bool) (H34 : PH) =>
  mIf s32
  (Q false H34)
  (mLoop (fun (s37 : Int) (H40 : PH) (again38 : Int → PH → Prop) =>
  mIf (decide (s37 < (p2.len : Int)))
  (mIdx p2 2 s37 fun a42 =>
  mIdxA 2 a42 1 0 fun a44 =>
  mLd (.int .i64) H40 a44 fun x46 =>
  mIdx p2 2 s37 fun a48 =>
  mIdxA 2 a48 1 1 fun a50 =>
  mLd (.int .i64) H40 a50 fun x52 =>
  keelsonalike_Round x46 p0 H40 fun y55 H54 =>
  mSame H54 a50 (.int .i64 x52) <|
  keelsonalike_Round x52 4 H54 fun y58 H57 =>
  mJoin (fun (s59 : Unit) (H61 : PH) =>
  paged_Paged_int_Set y28 y55 y58 H61 fun y64 H63 =>
  mJoin (fun (s66 : Bool) (H68 : PH) =>
  mIf s66
  (Q false H68)
  (again38 (IntKind.wrap .i64 (s37 + 1)) H68))
  fun j67 =>
  mIf (!y64)
  (j67 true H63)
  (mIdx r24 1 y58 fun a71 =>
  mLd .string H63 a71 fun x73 =>
  paged_Paged_string_Set y30 y55 x73 H63 fun y76 H75 =>
  j67 (!y76) H75))
  fun j60 =>
  mIf ((iand .i64 s37 7) == 7)
  (paged_Paged_int_Clean y28 H57 fun H78 =>
  paged_Paged_string_Clean y30 H78 fun H79 =>
  j60 () H79)
  (j60 () H57))
  (mLoop (fun (s80 : Int) (H83 : PH) (again81 : Int → PH → Prop) =>
  mIf (decide (s80 < p0))
  (paged_Paged_int_Get y28 s80 H83 fun y86 y87 H85 =>
  paged_Paged_string_Get y30 s80 H85 fun y89 y90 H88 =>
  mJoin (fun (s92 : Bool) (H94 : PH) =>
  mJoin (fun (s97 : Bool) (H99 : PH) =>
  mJoin (fun (s102 : Bool) (H104 : PH) =>
  mJoin (fun (s107 : Bool) (H109 : PH) =>
  mIf s107
  (Q false H109)
  (again81 (IntKind.wrap .i64 (s80 + 1)) H109))
  fun j108 =>
  mIf s102
  (j108 true H104)
  (mIdx r24 1 y86 fun a112 =>
  mLd .string H104 a112 fun x114 =>
  j108 (!(x114.toList == y89.toList)) H104))
  fun j103 =>
  mIf s97
  (j103 true H99)
  (j103 (decide (3 < y86)) H99))
  fun j98 =>
  mIf s92
  (j98 true H94)
  (j98 (decide (y86 < 0)) H94))
  fun j93 =>
  mIf (!y87)
  (j93 true H88)
  (j93 (!y90) H88))
  (mNew H83 (row [.slice none 0 0] 31) fun a116 H117 =>
  paged_Paged_string_Dirty y30 H117 fun y120 H119 =>
  mBoth (IsFn y120) <|
  mIf (fisNil y120)
  (Q false H119)
  (IterH Try.prog y120 (fun (vs123 : List Value) (q124 : Unit) (H125 : PH) (y126 : Nat → Unit → PH → Prop) =>
  ∃ (x127 : Int), vs123 = [.int .i64 x127] ∧
  mLd Sl.v H125 a116 fun x128 =>
  mNewS H125 (row [.int .i64 x127] 3) 1 fun r130 H131 =>
  mApp H131 3 1 8 [.int .i64 0] x128 r130 fun r133 H134 =>
  mSt H134 a116 ([Sl.v r133]) fun H135 =>
  y126 0 () H135) () H119 fun _ q138 H139 =>
  mLd Sl.v H139 a116 fun x140 =>
  keelsonlaw11_dirty y28 100 H139 fun y143 H142 =>
  mSame H142 a116 (Sl.v x140) <|
  keelsonalike_Ints y143 x140 H142 fun y146 H145 =>
  mJoin (fun (s148 : Bool) (H150 : PH) =>
  Q s148 H150)
  fun j149 =>
  mIf y146
  (keelsonlaw11_awake H145 fun y153 H152 =>
  j149 y153 H152)
  (j149 false H145))))
  0 H40))
  0 H34))
  fun j33 =>
  mIf (Option.isNone y28)
  (j33 true H29)
  (j33 (Option.isNone y30) H29)))
  fun j18 =>
  mIf s12
  (j18 true H14)
  (j18 (decide (40 < (p2.len : Int))) H14))
  fun j13 =>
  mIf s7
  (j13 true H9)
  (j13 (decide (60 < p1)) H9))
  fun j8 =>
  mIf s2
  (j8 true H4)
  (j8 (decide (p1 < 1)) H4))
  fun j3 =>
  mIf (decide (p0 < 1))
  (j3 true H)
  (j3 (decide (60 < p0)) H)

set_option maxRecDepth 20000 in
set_option maxHeartbeats 1000000 in
theorem keelsonlaw11_PagedTexts_s (p0 : Int) (p1 : Int) (p2 : Sl) (H : PH) (Q : Bool → PH → Prop) (h : keelsonlaw11_PagedTexts p0 p1 p2 H Q) :
    CallsH Try.prog 4 #[.int .i64 p0, .int .i64 p1, Sl.v p2] H (fun v H' => ∃ (r0 : Bool), v = .bool r0 ∧ Q r0 H') := by
  unfold keelsonlaw11_PagedTexts at h
  refine callsH_of_goM Try.func4 rfl Try.ntmps4 (Nat.le_of_ble_eq_true rfl) ?_
  intro D M hM hB hA
  refine Go.seq ?_
  refine Go.region rfl ?_
  refine GoOps.q (v := .bool false) rfl rfl (by decide) (q_assign rfl) ?_
  refine GoOps.nil ?_
  refine Go.seq ?_
  refine Go.seq ?_
  refine Go.region rfl ?_
  refine GoOps.q (v := .int .i64 p0) rfl rfl (by decide) (q_move rfl) ?_
  refine GoOps.q (v := .bool (decide (p0 < 1))) rfl rfl (by decide) (q_lss rfl rfl) ?_
  refine GoOps.q (v := .bool (decide (p0 < 1))) rfl rfl (by decide) (q_move rfl) ?_
  refine join_ops 3 (fun ρ (s2 : Bool) => ρ 0 = .int .i64 p0 ∧ ρ 1 = .int .i64 p1 ∧ ρ 2 = Sl.v p2 ∧ ρ 26 = .bool s2) h ?_ ?_ <;> clear h
  · intro s2 H4 ρ h hE
    obtain ⟨e5_0, e5_1, e5_2, e5_26⟩ := hE
    refine GoOps.q (v := .bool s2) rfl rfl (by decide) (q_move e5_26) ?_
    refine join_ops 3 (fun ρ (s7 : Bool) => ρ 0 = .int .i64 p0 ∧ ρ 1 = .int .i64 p1 ∧ ρ 2 = Sl.v p2 ∧ ρ 30 = .bool s7) h ?_ ?_ <;> clear h
    · intro s7 H9 ρ h hE
      obtain ⟨e10_0, e10_1, e10_2, e10_30⟩ := hE
      refine GoOps.q (v := .bool s7) rfl rfl (by decide) (q_move e10_30) ?_
      refine join_ops 3 (fun ρ (s12 : Bool) => ρ 0 = .int .i64 p0 ∧ ρ 1 = .int .i64 p1 ∧ ρ 2 = Sl.v p2 ∧ ρ 34 = .bool s12) h ?_ ?_ <;> clear h
      · intro s12 H14 ρ h hE
        obtain ⟨e15_0, e15_1, e15_2, e15_34⟩ := hE
        refine GoOps.q (v := .bool s12) rfl rfl (by decide) (q_move e15_34) ?_
        refine join_ops 4 (fun ρ (s17 : Bool) => ρ 0 = .int .i64 p0 ∧ ρ 1 = .int .i64 p1 ∧ ρ 2 = Sl.v p2 ∧ ρ 39 = .bool s17) h ?_ ?_ <;> clear h
        · intro s17 H19 ρ h hE
          obtain ⟨e20_0, e20_1, e20_2, e20_39⟩ := hE
          refine GoOps.nil ?_
          rcases bor s17 with hc21 | hc21
          · have h := h.1 hc21
            refine Go.condT (btT e20_39 hc21) ?_
            refine Go.seq ?_
            refine Go.region rfl ?_
            refine call_dst rfl (by decide) body7 (keelsonlaw11_awake_s _ _ h) rfl ?_
            rintro _ H22 ⟨y23, rfl, h⟩
            refine GoOps.q (v := .bool y23) rfl rfl (by decide) (q_assign rfl) ?_
            refine GoOps.nil ?_
            exact Go.retM (g := ()) hM hB hA ⟨.inl rfl, _, (resOk1 Try.results4 rfl), ⟨_, rfl, h⟩⟩
          · have h := h.2 hc21
            refine Go.condF (btF e20_39 hc21) ?_
            refine Go.skip ?_
            refine Go.seq ?_
            refine Go.region rfl ?_
            refine op_dst rfl rfl (by decide) (do_bs (ps := [(0, .string (⟨#[]⟩ : ByteArray)), (1, .string (⟨#[97]⟩ : ByteArray)), (2, .string (⟨#[98]⟩ : ByteArray)), (3, .string (⟨#[99]⟩ : ByteArray))]) (zs := [.string ⟨#[]⟩]) (cs := [.string (⟨#[]⟩ : ByteArray), .string (⟨#[97]⟩ : ByteArray), .string (⟨#[98]⟩ : ByteArray), .string (⟨#[99]⟩ : ByteArray)]) slice35 zero9 rfl rfl (by decide) (by decide) rfl rfl fun r24 H25 hb26 => ?_) 
            have h := h r24 H25 hb26
            refine GoOps.q (v := Sl.v r24) rfl rfl (by decide) (q_assign rfl) ?_
            refine GoOps.nil ?_
            refine Go.seq ?_
            refine Go.region rfl ?_
            refine GoOps.q (v := .int .i64 p0) rfl rfl (by decide) (q_move e20_0) ?_
            refine GoOps.q (v := .int .i64 p1) rfl rfl (by decide) (q_move e20_1) ?_
            refine call_dst rfl (by decide) body8 (paged_New_int_s _ _ _ _ _ h) rfl ?_
            rintro _ H27 ⟨y28, rfl, h⟩
            refine GoOps.q (v := .int .i64 p0) rfl rfl (by decide) (q_move e20_0) ?_
            refine GoOps.q (v := .int .i64 p1) rfl rfl (by decide) (q_move e20_1) ?_
            refine call_dst rfl (by decide) body14 (paged_New_string_s _ _ _ _ _ h) rfl ?_
            rintro _ H29 ⟨y30, rfl, h⟩
            refine GoOps.q (v := .pointer y28) rfl rfl (by decide) (q_assign rfl) ?_
            refine GoOps.q (v := .pointer y30) rfl rfl (by decide) (q_assign rfl) ?_
            refine GoOps.nil ?_
            refine Go.seq ?_
            refine Go.seq ?_
            refine Go.region rfl ?_
            refine GoOps.q (v := .pointer y28) rfl rfl (by decide) (q_move rfl) ?_
            refine GoOps.q (v := .bool (Option.isNone y28)) rfl rfl (by decide) (q_eqlPn Try.underlying24 rfl rfl) ?_
            refine GoOps.q (v := .bool (Option.isNone y28)) rfl rfl (by decide) (q_move rfl) ?_
            refine join_ops 3 (fun ρ (s32 : Bool) => ρ 0 = .int .i64 p0 ∧ ρ 2 = Sl.v p2 ∧ ρ 7 = Sl.v r24 ∧ ρ 8 = .pointer y28 ∧ ρ 9 = .pointer y30 ∧ ρ 53 = .bool s32) h ?_ ?_ <;> clear h
            · intro s32 H34 ρ h hE
              obtain ⟨e35_0, e35_2, e35_7, e35_8, e35_9, e35_53⟩ := hE
              refine GoOps.nil ?_
              rcases bor s32 with hc36 | hc36
              · have h := h.1 hc36
                refine Go.condT (btT e35_53 hc36) ?_
                refine Go.seq ?_
                refine Go.region rfl ?_
                refine GoOps.q (v := .bool false) rfl rfl (by decide) (q_assign rfl) ?_
                refine GoOps.nil ?_
                exact Go.retM (g := ()) hM hB hA ⟨.inl rfl, _, (resOk1 Try.results4 rfl), ⟨_, rfl, h⟩⟩
              · have h := h.2 hc36
                refine Go.condF (btF e35_53 hc36) ?_
                refine Go.skip ?_
                refine Go.seq ?_
                refine Go.seq ?_
                refine Go.region rfl ?_
                refine GoOps.q (v := .int .i64 0) rfl rfl (by decide) (q_assign rfl) ?_
                refine GoOps.nil ?_
                refine Go.block ?_
                refine loop_goM (g := ()) (fun _ => ()) (fun ρ (s37 : Int) => ρ 0 = .int .i64 p0 ∧ ρ 2 = Sl.v p2 ∧ ρ 7 = Sl.v r24 ∧ ρ 8 = .pointer y28 ∧ ρ 9 = .pointer y30 ∧ ρ 10 = .int .i64 s37) hM hB hA h ⟨e35_0, e35_2, e35_7, e35_8, e35_9, rfl⟩ rfl ?_
                clear h
                intro ρ s37 H40 again38 hE h hagain38
                obtain ⟨e39_0, e39_2, e39_7, e39_8, e39_9, e39_10⟩ := hE
                intro D M hM hB hA
                refine Go.seq ?_
                refine Go.seq ?_
                refine Go.region rfl ?_
                refine GoOps.q (v := .int .i64 s37) rfl rfl (by decide) (q_move e39_10) ?_
                refine GoOps.q (v := Sl.v p2) rfl rfl (by decide) (q_move e39_2) ?_
                refine GoOps.q (v := .int .i64 (p2.len : Int)) rfl rfl (by decide) (q_len Try.underlying22 rfl (ls1 rfl)) ?_
                refine GoOps.q (v := .bool (decide (s37 < (p2.len : Int)))) rfl rfl (by decide) (q_lss rfl rfl) ?_
                refine GoOps.nil ?_
                rcases bor (decide (s37 < (p2.len : Int))) with hc41 | hc41
                · have h := h.1 hc41
                  refine Go.condT (btT rfl hc41) ?_
                  refine Go.skip ?_
                  refine Go.seq ?_
                  refine Go.block ?_
                  refine Go.seq ?_
                  refine Go.draw mixed ?_
                  refine plan_pure (i := 0) (d := 60) (S2 := 1) (v := Sl.v p2) rfl (by decide +kernel) rfl (q_move e39_2) ?_
                  refine plan_pure (i := 1) (d := 61) (S2 := 3) (v := .int .i64 s37) rfl (by decide +kernel) rfl (q_move e39_10) ?_
                  obtain ⟨a42, ha43, h⟩ := h
                  refine plan_pure (i := 2) (d := 62) (S2 := 7) (v := .pointer (some a42)) rfl (by decide +kernel) rfl (q_idx slice22 ha43 rfl rfl) ?_
                  obtain ⟨a44, ha45, h⟩ := h
                  refine plan_pure (i := 3) (d := 63) (S2 := 15) (v := .pointer (some a44)) rfl (by decide +kernel) rfl (q_idxA array28 ha45 rfl rfl) ?_
                  obtain ⟨x46, hx47, h⟩ := h
                  refine plan_load (i := 4) (d := 64) (S2 := 31) (v := .int .i64 x46) rfl (by decide +kernel) rfl (q_load scalar3 rfl hx47) ?_
                  refine plan_pure (i := 5) (d := 65) (S2 := 63) (v := .int .i64 p0) rfl (by decide +kernel) rfl (q_move e39_0) ?_
                  refine plan_pure (i := 7) (d := 67) (S2 := 191) (v := Sl.v p2) rfl (by decide +kernel) rfl (q_move e39_2) ?_
                  refine plan_pure (i := 8) (d := 68) (S2 := 447) (v := .int .i64 s37) rfl (by decide +kernel) rfl (q_move e39_10) ?_
                  obtain ⟨a48, ha49, h⟩ := h
                  refine plan_pure (i := 9) (d := 69) (S2 := 959) (v := .pointer (some a48)) rfl (by decide +kernel) rfl (q_idx slice22 ha49 rfl rfl) ?_
                  obtain ⟨a50, ha51, h⟩ := h
                  refine plan_pure (i := 10) (d := 70) (S2 := 1983) (v := .pointer (some a50)) rfl (by decide +kernel) rfl (q_idxA array28 ha51 rfl rfl) ?_
                  obtain ⟨x52, hx53, h⟩ := h
                  refine plan_load (i := 11) (d := 71) (S2 := 4031) (v := .int .i64 x52) rfl (by decide +kernel) rfl (q_load scalar3 rfl hx53) ?_
                  refine plan_one (j := 6) (S2 := 4095) (by decide +kernel) rfl (by decide) rfl ?_
                  refine do_call2 body9 (keelsonalike_Round_s _ _ _ _ h) rfl ?_
                  rintro _ H54 ⟨y55, rfl, h⟩
                  obtain ⟨hr56, h⟩ := h
                  refine ⟨_, (.inr ⟨⟨_, _, rfl, rfl, q_load scalar3 rfl hr56⟩, _, rfl, .inl ⟨⟨[6], by decide +kernel, rfl⟩, rfl⟩⟩), ?_⟩
                  refine plan_one (j := 12) (S2 := 8191) (by decide +kernel) rfl (by decide) rfl ?_
                  refine do_call2 body9 (keelsonalike_Round_s _ _ _ _ h) rfl ?_
                  rintro _ H57 ⟨y58, rfl, h⟩
                  refine ⟨_, (.inl ⟨⟨[12], by decide +kernel, rfl⟩, rfl⟩), ?_⟩
                  refine plan_pure (i := 13) (d := 11) (S2 := 16383) (v := .int .i64 y55) rfl (by decide +kernel) rfl (q_assign rfl) ?_
                  refine plan_pure (i := 14) (d := 12) (S2 := 32767) (v := .int .i64 y58) rfl (by decide +kernel) rfl (q_assign rfl) ?_
                  refine plan_done (by decide +kernel) ?_
                  refine Go.seq ?_
                  refine Go.seq ?_
                  refine Go.region rfl ?_
                  refine GoOps.q (v := .int .i64 s37) rfl rfl (by decide) (q_move e39_10) ?_
                  refine GoOps.q (v := .int .i64 (iand .i64 s37 7)) rfl rfl (by decide) (q_and rfl rfl) ?_
                  refine GoOps.q (v := .bool ((iand .i64 s37 7) == 7)) rfl rfl (by decide) (q_eql rfl rfl) ?_
                  refine GoOps.nil ?_
                  refine join_goM 1 (fun _ => ()) (fun ρ (s59 : Unit) => ρ 0 = .int .i64 p0 ∧ ρ 2 = Sl.v p2 ∧ ρ 7 = Sl.v r24 ∧ ρ 8 = .pointer y28 ∧ ρ 9 = .pointer y30 ∧ ρ 10 = .int .i64 s37 ∧ ρ 11 = .int .i64 y55 ∧ ρ 12 = .int .i64 y58) hB h ?_ ?_ <;> clear h
                  · intro s59 H61 ρ h hE
                    obtain ⟨e62_0, e62_2, e62_7, e62_8, e62_9, e62_10, e62_11, e62_12⟩ := hE
                    intro D M hM hB hA
                    refine Go.seq ?_
                    refine Go.region rfl ?_
                    refine GoOps.q (v := .pointer y28) rfl rfl (by decide) (q_move e62_8) ?_
                    refine GoOps.q (v := .int .i64 y55) rfl rfl (by decide) (q_move e62_11) ?_
                    refine GoOps.q (v := .int .i64 y58) rfl rfl (by decide) (q_move e62_12) ?_
                    refine call_dst rfl (by decide) body10 (paged_Paged_int_Set_s _ _ _ _ _ h) rfl ?_
                    rintro _ H63 ⟨y64, rfl, h⟩
                    refine GoOps.q (v := .bool (!y64)) rfl rfl (by decide) (q_not rfl) ?_
                    refine GoOps.q (v := .bool (!y64)) rfl rfl (by decide) (q_move rfl) ?_
                    refine join_ops 9 (fun ρ (s66 : Bool) => ρ 0 = .int .i64 p0 ∧ ρ 2 = Sl.v p2 ∧ ρ 7 = Sl.v r24 ∧ ρ 8 = .pointer y28 ∧ ρ 9 = .pointer y30 ∧ ρ 10 = .int .i64 s37 ∧ ρ 94 = .bool s66) h ?_ ?_ <;> clear h
                    · intro s66 H68 ρ h hE
                      obtain ⟨e69_0, e69_2, e69_7, e69_8, e69_9, e69_10, e69_94⟩ := hE
                      refine GoOps.nil ?_
                      rcases bor s66 with hc70 | hc70
                      · have h := h.1 hc70
                        refine Go.condT (btT e69_94 hc70) ?_
                        refine Go.seq ?_
                        refine Go.region rfl ?_
                        refine GoOps.q (v := .bool false) rfl rfl (by decide) (q_assign rfl) ?_
                        refine GoOps.nil ?_
                        exact Go.retM (g := ()) hM hB hA ⟨.inl rfl, _, (resOk1 Try.results4 rfl), ⟨_, rfl, h⟩⟩
                      · have h := h.2 hc70
                        refine Go.condF (btF e69_94 hc70) ?_
                        refine Go.skip ?_
                        refine Go.inBlock ?_
                        refine Go.region rfl ?_
                        refine GoOps.q (v := .int .i64 s37) rfl rfl (by decide) (q_move e69_10) ?_
                        refine GoOps.q (v := .int .i64 (IntKind.wrap .i64 (s37 + 1))) rfl rfl (by decide) (q_add rfl rfl) ?_
                        refine GoOps.q (v := .int .i64 (IntKind.wrap .i64 (s37 + 1))) rfl rfl (by decide) (q_assign rfl) ?_
                        refine GoOps.nil ?_
                        exact hagain38 (IntKind.wrap .i64 (s37 + 1)) _ _ h (by exact ⟨e69_0, e69_2, e69_7, e69_8, e69_9, rfl⟩) _ _ hM hB hA
                    · intro j67 hj67 h
                      rcases bor (!y64) with hc65 | hc65
                      · have h := h.1 hc65
                        refine no_dst (want_no rfl rfl rfl hc65) rfl (by decide) ?_
                        refine no_dst (want_no rfl rfl rfl hc65) rfl (by decide) ?_
                        refine no_dst (want_no rfl rfl rfl hc65) rfl (by decide) ?_
                        refine no_dst (want_no rfl rfl rfl hc65) rfl (by decide) ?_
                        refine no_dst (want_no rfl rfl rfl hc65) rfl (by decide) ?_
                        refine no_dst (want_no rfl rfl rfl hc65) rfl (by decide) ?_
                        refine no_dst (want_no rfl rfl rfl hc65) rfl (by decide) ?_
                        refine no_dst (want_no rfl rfl rfl hc65) rfl (by decide) ?_
                        refine GoOps.q (v := .bool true) rfl rfl (by decide) (q_pickT (btT rfl hc65) rfl) ?_
                        exact hj67 true _ _ h (by exact ⟨e62_0, e62_2, e62_7, e62_8, e62_9, e62_10, rfl⟩)
                      · have h := h.2 hc65
                        refine GoOps.q (v := .pointer y30) (want_yes rfl rfl rfl hc65) rfl (by decide) (q_move e62_9) ?_
                        refine GoOps.q (v := .int .i64 y55) (want_yes rfl rfl rfl hc65) rfl (by decide) (q_move e62_11) ?_
                        refine GoOps.q (v := Sl.v r24) (want_yes rfl rfl rfl hc65) rfl (by decide) (q_move e62_7) ?_
                        refine GoOps.q (v := .int .i64 y58) (want_yes rfl rfl rfl hc65) rfl (by decide) (q_move e62_12) ?_
                        obtain ⟨a71, ha72, h⟩ := h
                        refine GoOps.q (v := .pointer (some a71)) (want_yes rfl rfl rfl hc65) rfl (by decide) (q_idx slice35 ha72 rfl rfl) ?_
                        obtain ⟨x73, hx74, h⟩ := h
                        refine GoOps.q (v := .string x73) (want_yes rfl rfl rfl hc65) rfl (by decide) (q_load scalar9 rfl hx74) ?_
                        refine call_dst (want_yes rfl rfl rfl hc65) (by decide) body16 (paged_Paged_string_Set_s _ _ _ _ _ h) rfl ?_
                        rintro _ H75 ⟨y76, rfl, h⟩
                        refine GoOps.q (v := .bool (!y76)) (want_yes rfl rfl rfl hc65) rfl (by decide) (q_not rfl) ?_
                        refine GoOps.q (v := .bool (!y76)) rfl rfl (by decide) (q_pickF (btF rfl hc65) rfl) ?_
                        exact hj67 (!y76) _ _ h (by exact ⟨e62_0, e62_2, e62_7, e62_8, e62_9, e62_10, rfl⟩)
                  · intro j60 hj60 h
                    rcases bor ((iand .i64 s37 7) == 7) with hc77 | hc77
                    · have h := h.1 hc77
                      refine Go.condT (btT rfl hc77) ?_
                      refine Go.seq ?_
                      refine Go.region rfl ?_
                      refine GoOps.q (v := .pointer y28) rfl rfl (by decide) (q_move e39_8) ?_
                      refine call_dst rfl (by decide) body11 (paged_Paged_int_Clean_s _ _ _ h) rfl ?_
                      rintro _ H78 ⟨rfl, h⟩
                      refine GoOps.nil ?_
                      refine Go.region rfl ?_
                      refine GoOps.q (v := .pointer y30) rfl rfl (by decide) (q_move e39_9) ?_
                      refine call_dst rfl (by decide) body15 (paged_Paged_string_Clean_s _ _ _ h) rfl ?_
                      rintro _ H79 ⟨rfl, h⟩
                      refine GoOps.nil ?_
                      exact hj60 () _ _ h (by exact ⟨e39_0, e39_2, e39_7, e39_8, e39_9, e39_10, rfl, rfl⟩) _ _ hM hB hA
                    · have h := h.2 hc77
                      refine Go.condF (btF rfl hc77) ?_
                      refine Go.skip ?_
                      exact hj60 () _ _ h (by exact ⟨e39_0, e39_2, e39_7, e39_8, e39_9, e39_10, rfl, rfl⟩) _ _ hM hB hA
                · have h := h.2 hc41
                  refine Go.condF (btF rfl hc41) ?_
                  refine Go.exit rfl ?_
                  refine Go.seq ?_
                  refine Go.seq ?_
                  refine Go.region rfl ?_
                  refine GoOps.q (v := .int .i64 0) rfl rfl (by decide) (q_assign rfl) ?_
                  refine GoOps.nil ?_
                  refine Go.block ?_
                  refine loop_goM (g := ()) (fun _ => ()) (fun ρ (s80 : Int) => ρ 0 = .int .i64 p0 ∧ ρ 7 = Sl.v r24 ∧ ρ 8 = .pointer y28 ∧ ρ 9 = .pointer y30 ∧ ρ 13 = .int .i64 s80) hM hB hA h ⟨e39_0, e39_7, e39_8, e39_9, rfl⟩ rfl ?_
                  clear h
                  intro ρ s80 H83 again81 hE h hagain81
                  obtain ⟨e82_0, e82_7, e82_8, e82_9, e82_13⟩ := hE
                  intro D M hM hB hA
                  refine Go.seq ?_
                  refine Go.seq ?_
                  refine Go.region rfl ?_
                  refine GoOps.q (v := .int .i64 s80) rfl rfl (by decide) (q_move e82_13) ?_
                  refine GoOps.q (v := .int .i64 p0) rfl rfl (by decide) (q_move e82_0) ?_
                  refine GoOps.q (v := .bool (decide (s80 < p0))) rfl rfl (by decide) (q_lss rfl rfl) ?_
                  refine GoOps.nil ?_
                  rcases bor (decide (s80 < p0)) with hc84 | hc84
                  · have h := h.1 hc84
                    refine Go.condT (btT rfl hc84) ?_
                    refine Go.skip ?_
                    refine Go.seq ?_
                    refine Go.block ?_
                    refine Go.seq ?_
                    refine Go.region rfl ?_
                    refine GoOps.q (v := .pointer y28) rfl rfl (by decide) (q_move e82_8) ?_
                    refine GoOps.q (v := .int .i64 s80) rfl rfl (by decide) (q_move e82_13) ?_
                    refine call_dst rfl (by decide) body17 (paged_Paged_int_Get_s _ _ _ _ h) rfl ?_
                    rintro _ H85 ⟨y86, y87, rfl, h⟩
                    refine GoOps.q (v := .tuple #[.int .i64 y86, .bool y87]) rfl rfl (by decide) (q_move rfl) ?_
                    refine GoOps.q (v := .int .i64 y86) rfl rfl (by decide) (q_extract rfl rfl) ?_
                    refine GoOps.q (v := .bool y87) rfl rfl (by decide) (q_extract rfl rfl) ?_
                    refine GoOps.q (v := .int .i64 y86) rfl rfl (by decide) (q_assign rfl) ?_
                    refine GoOps.q (v := .bool y87) rfl rfl (by decide) (q_assign rfl) ?_
                    refine GoOps.nil ?_
                    refine Go.seq ?_
                    refine Go.region rfl ?_
                    refine GoOps.q (v := .pointer y30) rfl rfl (by decide) (q_move e82_9) ?_
                    refine GoOps.q (v := .int .i64 s80) rfl rfl (by decide) (q_move e82_13) ?_
                    refine call_dst rfl (by decide) body18 (paged_Paged_string_Get_s _ _ _ _ h) rfl ?_
                    rintro _ H88 ⟨y89, y90, rfl, h⟩
                    refine GoOps.q (v := .tuple #[.string y89, .bool y90]) rfl rfl (by decide) (q_move rfl) ?_
                    refine GoOps.q (v := .string y89) rfl rfl (by decide) (q_extract rfl rfl) ?_
                    refine GoOps.q (v := .bool y90) rfl rfl (by decide) (q_extract rfl rfl) ?_
                    refine GoOps.q (v := .string y89) rfl rfl (by decide) (q_assign rfl) ?_
                    refine GoOps.q (v := .bool y90) rfl rfl (by decide) (q_assign rfl) ?_
                    refine GoOps.nil ?_
                    refine Go.seq ?_
                    refine Go.region rfl ?_
                    refine GoOps.q (v := .bool y87) rfl rfl (by decide) (q_move rfl) ?_
                    refine GoOps.q (v := .bool (!y87)) rfl rfl (by decide) (q_not rfl) ?_
                    refine GoOps.q (v := .bool (!y87)) rfl rfl (by decide) (q_move rfl) ?_
                    refine join_ops 3 (fun ρ (s92 : Bool) => ρ 0 = .int .i64 p0 ∧ ρ 7 = Sl.v r24 ∧ ρ 8 = .pointer y28 ∧ ρ 9 = .pointer y30 ∧ ρ 13 = .int .i64 s80 ∧ ρ 14 = .int .i64 y86 ∧ ρ 16 = .string y89 ∧ ρ 117 = .bool s92) h ?_ ?_ <;> clear h
                    · intro s92 H94 ρ h hE
                      obtain ⟨e95_0, e95_7, e95_8, e95_9, e95_13, e95_14, e95_16, e95_117⟩ := hE
                      refine GoOps.q (v := .bool s92) rfl rfl (by decide) (q_move e95_117) ?_
                      refine join_ops 3 (fun ρ (s97 : Bool) => ρ 0 = .int .i64 p0 ∧ ρ 7 = Sl.v r24 ∧ ρ 8 = .pointer y28 ∧ ρ 9 = .pointer y30 ∧ ρ 13 = .int .i64 s80 ∧ ρ 14 = .int .i64 y86 ∧ ρ 16 = .string y89 ∧ ρ 121 = .bool s97) h ?_ ?_ <;> clear h
                      · intro s97 H99 ρ h hE
                        obtain ⟨e100_0, e100_7, e100_8, e100_9, e100_13, e100_14, e100_16, e100_121⟩ := hE
                        refine GoOps.q (v := .bool s97) rfl rfl (by decide) (q_move e100_121) ?_
                        refine join_ops 3 (fun ρ (s102 : Bool) => ρ 0 = .int .i64 p0 ∧ ρ 7 = Sl.v r24 ∧ ρ 8 = .pointer y28 ∧ ρ 9 = .pointer y30 ∧ ρ 13 = .int .i64 s80 ∧ ρ 14 = .int .i64 y86 ∧ ρ 16 = .string y89 ∧ ρ 125 = .bool s102) h ?_ ?_ <;> clear h
                        · intro s102 H104 ρ h hE
                          obtain ⟨e105_0, e105_7, e105_8, e105_9, e105_13, e105_14, e105_16, e105_125⟩ := hE
                          refine GoOps.q (v := .bool s102) rfl rfl (by decide) (q_move e105_125) ?_
                          refine join_ops 7 (fun ρ (s107 : Bool) => ρ 0 = .int .i64 p0 ∧ ρ 7 = Sl.v r24 ∧ ρ 8 = .pointer y28 ∧ ρ 9 = .pointer y30 ∧ ρ 13 = .int .i64 s80 ∧ ρ 133 = .bool s107) h ?_ ?_ <;> clear h
                          · intro s107 H109 ρ h hE
                            obtain ⟨e110_0, e110_7, e110_8, e110_9, e110_13, e110_133⟩ := hE
                            refine GoOps.nil ?_
                            rcases bor s107 with hc111 | hc111
                            · have h := h.1 hc111
                              refine Go.condT (btT e110_133 hc111) ?_
                              refine Go.seq ?_
                              refine Go.region rfl ?_
                              refine GoOps.q (v := .bool false) rfl rfl (by decide) (q_assign rfl) ?_
                              refine GoOps.nil ?_
                              exact Go.retM (g := ()) hM hB hA ⟨.inl rfl, _, (resOk1 Try.results4 rfl), ⟨_, rfl, h⟩⟩
                            · have h := h.2 hc111
                              refine Go.condF (btF e110_133 hc111) ?_
                              refine Go.skip ?_
                              refine Go.inBlock ?_
                              refine Go.region rfl ?_
                              refine GoOps.q (v := .int .i64 s80) rfl rfl (by decide) (q_move e110_13) ?_
                              refine GoOps.q (v := .int .i64 (IntKind.wrap .i64 (s80 + 1))) rfl rfl (by decide) (q_add rfl rfl) ?_
                              refine GoOps.q (v := .int .i64 (IntKind.wrap .i64 (s80 + 1))) rfl rfl (by decide) (q_assign rfl) ?_
                              refine GoOps.nil ?_
                              exact hagain81 (IntKind.wrap .i64 (s80 + 1)) _ _ h (by exact ⟨e110_0, e110_7, e110_8, e110_9, rfl⟩) _ _ hM hB hA
                          · intro j108 hj108 h
                            rcases bor s102 with hc106 | hc106
                            · have h := h.1 hc106
                              refine no_dst (want_no rfl rfl rfl hc106) rfl (by decide) ?_
                              refine no_dst (want_no rfl rfl rfl hc106) rfl (by decide) ?_
                              refine no_dst (want_no rfl rfl rfl hc106) rfl (by decide) ?_
                              refine no_dst (want_no rfl rfl rfl hc106) rfl (by decide) ?_
                              refine no_dst (want_no rfl rfl rfl hc106) rfl (by decide) ?_
                              refine no_dst (want_no rfl rfl rfl hc106) rfl (by decide) ?_
                              refine GoOps.q (v := .bool true) rfl rfl (by decide) (q_pickT (btT rfl hc106) rfl) ?_
                              exact hj108 true _ _ h (by exact ⟨e105_0, e105_7, e105_8, e105_9, e105_13, rfl⟩)
                            · have h := h.2 hc106
                              refine GoOps.q (v := Sl.v r24) (want_yes rfl rfl rfl hc106) rfl (by decide) (q_move e105_7) ?_
                              refine GoOps.q (v := .int .i64 y86) (want_yes rfl rfl rfl hc106) rfl (by decide) (q_move e105_14) ?_
                              obtain ⟨a112, ha113, h⟩ := h
                              refine GoOps.q (v := .pointer (some a112)) (want_yes rfl rfl rfl hc106) rfl (by decide) (q_idx slice35 ha113 rfl rfl) ?_
                              obtain ⟨x114, hx115, h⟩ := h
                              refine GoOps.q (v := .string x114) (want_yes rfl rfl rfl hc106) rfl (by decide) (q_load scalar9 rfl hx115) ?_
                              refine GoOps.q (v := .string y89) (want_yes rfl rfl rfl hc106) rfl (by decide) (q_move e105_16) ?_
                              refine GoOps.q (v := .bool (!(x114.toList == y89.toList))) (want_yes rfl rfl rfl hc106) rfl (by decide) (q_neqS Try.underlying9 rfl rfl) ?_
                              refine GoOps.q (v := .bool (!(x114.toList == y89.toList))) rfl rfl (by decide) (q_pickF (btF rfl hc106) rfl) ?_
                              exact hj108 (!(x114.toList == y89.toList)) _ _ h (by exact ⟨e105_0, e105_7, e105_8, e105_9, e105_13, rfl⟩)
                        · intro j103 hj103 h
                          rcases bor s97 with hc101 | hc101
                          · have h := h.1 hc101
                            refine no_dst (want_no rfl rfl rfl hc101) rfl (by decide) ?_
                            refine no_dst (want_no rfl rfl rfl hc101) rfl (by decide) ?_
                            refine GoOps.q (v := .bool true) rfl rfl (by decide) (q_pickT (btT rfl hc101) rfl) ?_
                            exact hj103 true _ _ h (by exact ⟨e100_0, e100_7, e100_8, e100_9, e100_13, e100_14, e100_16, rfl⟩)
                          · have h := h.2 hc101
                            refine GoOps.q (v := .int .i64 y86) (want_yes rfl rfl rfl hc101) rfl (by decide) (q_move e100_14) ?_
                            refine GoOps.q (v := .bool (decide (3 < y86))) (want_yes rfl rfl rfl hc101) rfl (by decide) (q_gtr rfl rfl) ?_
                            refine GoOps.q (v := .bool (decide (3 < y86))) rfl rfl (by decide) (q_pickF (btF rfl hc101) rfl) ?_
                            exact hj103 (decide (3 < y86)) _ _ h (by exact ⟨e100_0, e100_7, e100_8, e100_9, e100_13, e100_14, e100_16, rfl⟩)
                      · intro j98 hj98 h
                        rcases bor s92 with hc96 | hc96
                        · have h := h.1 hc96
                          refine no_dst (want_no rfl rfl rfl hc96) rfl (by decide) ?_
                          refine no_dst (want_no rfl rfl rfl hc96) rfl (by decide) ?_
                          refine GoOps.q (v := .bool true) rfl rfl (by decide) (q_pickT (btT rfl hc96) rfl) ?_
                          exact hj98 true _ _ h (by exact ⟨e95_0, e95_7, e95_8, e95_9, e95_13, e95_14, e95_16, rfl⟩)
                        · have h := h.2 hc96
                          refine GoOps.q (v := .int .i64 y86) (want_yes rfl rfl rfl hc96) rfl (by decide) (q_move e95_14) ?_
                          refine GoOps.q (v := .bool (decide (y86 < 0))) (want_yes rfl rfl rfl hc96) rfl (by decide) (q_lss rfl rfl) ?_
                          refine GoOps.q (v := .bool (decide (y86 < 0))) rfl rfl (by decide) (q_pickF (btF rfl hc96) rfl) ?_
                          exact hj98 (decide (y86 < 0)) _ _ h (by exact ⟨e95_0, e95_7, e95_8, e95_9, e95_13, e95_14, e95_16, rfl⟩)
                    · intro j93 hj93 h
                      rcases bor (!y87) with hc91 | hc91
                      · have h := h.1 hc91
                        refine no_dst (want_no rfl rfl rfl hc91) rfl (by decide) ?_
                        refine no_dst (want_no rfl rfl rfl hc91) rfl (by decide) ?_
                        refine GoOps.q (v := .bool true) rfl rfl (by decide) (q_pickT (btT rfl hc91) rfl) ?_
                        exact hj93 true _ _ h (by exact ⟨e82_0, e82_7, e82_8, e82_9, e82_13, rfl, rfl, rfl⟩)
                      · have h := h.2 hc91
                        refine GoOps.q (v := .bool y90) (want_yes rfl rfl rfl hc91) rfl (by decide) (q_move rfl) ?_
                        refine GoOps.q (v := .bool (!y90)) (want_yes rfl rfl rfl hc91) rfl (by decide) (q_not rfl) ?_
                        refine GoOps.q (v := .bool (!y90)) rfl rfl (by decide) (q_pickF (btF rfl hc91) rfl) ?_
                        exact hj93 (!y90) _ _ h (by exact ⟨e82_0, e82_7, e82_8, e82_9, e82_13, rfl, rfl, rfl⟩)
                  · have h := h.2 hc84
                    refine Go.condF (btF rfl hc84) ?_
                    refine Go.exit rfl ?_
                    refine Go.seq ?_
                    refine Go.region rfl ?_
                    refine op_dst rfl rfl (by decide) (do_new zero31 rfl fun a116 H117 hb118 => ?_) 
                    have h := h a116 H117 hb118
                    refine GoOps.nil ?_
                    refine Go.seq ?_
                    refine Go.region rfl ?_
                    refine GoOps.q (v := .pointer y30) rfl rfl (by decide) (q_move e82_9) ?_
                    refine call_dst rfl (by decide) body19 (paged_Paged_string_Dirty_s _ _ _ h) rfl ?_
                    rintro y120 H119 ⟨_, rfl, h⟩
                    refine GoOps.q (v := y120) rfl rfl (by decide) (q_assign rfl) ?_
                    refine GoOps.nil ?_
                    refine Go.seq ?_
                    refine Go.seq ?_
                    refine Go.region rfl ?_
                    refine GoOps.q (v := y120) rfl rfl (by decide) (q_move rfl) ?_
                    obtain ⟨hf121, h⟩ := h
                    refine GoOps.q (v := .bool (fisNil y120)) rfl rfl (by decide) (q_eqlFv Try.underlying44 rfl rfl hf121) ?_
                    refine GoOps.nil ?_
                    rcases bor (fisNil y120) with hc122 | hc122
                    · have h := h.1 hc122
                      refine Go.condT (btT rfl hc122) ?_
                      refine Go.seq ?_
                      refine Go.region rfl ?_
                      refine GoOps.q (v := .bool false) rfl rfl (by decide) (q_assign rfl) ?_
                      refine GoOps.nil ?_
                      exact Go.retM (g := ()) hM hB hA ⟨.inl rfl, _, (resOk1 Try.results4 rfl), ⟨_, rfl, h⟩⟩
                    · have h := h.2 hc122
                      refine Go.condF (btF rfl hc122) ?_
                      refine Go.skip ?_
                      refine Go.seq ?_
                      refine Go.seq ?_
                      refine Go.region rfl ?_
                      refine GoOps.q (v := y120) rfl rfl (by decide) (q_move rfl) ?_
                      refine GoOps.nil ?_
                      refine Go.block ?_
                      refine go_range0 (g := ()) h rfl (fun _ _ _ h => h) rfl hM hB hA trivial ?_ ?_ <;> clear h
                      · rintro _ q124 H125 y126 ⟨x127, rfl, h⟩
                        refine ⟨rfl, fun lp Bx r hr => ?_⟩
                        clear hM hB hA
                        intro D M hM hB hA
                        refine Go.region rfl ?_
                        refine GoOps.q (v := .int .i64 x127) rfl rfl (by decide) (q_assign rfl) ?_
                        refine GoOps.nil ?_
                        refine go_begin (g := ()) hr hB hA fun M hB hA => ?_
                        have hM : Mk (some lp) D M := trivial
                        refine Go.block ?_
                        refine Go.region rfl ?_
                        obtain ⟨x128, hx129, h⟩ := h
                        refine GoOps.q (v := Sl.v x128) rfl rfl (by decide) (q_load scalar31 rfl hx129) ?_
                        refine GoOps.q (v := .int .i64 x127) rfl rfl (by decide) (q_move rfl) ?_
                        refine op_dst rfl rfl (by decide) (do_bs (ps := [(0, .int .i64 x127)]) (zs := [.int .i64 0]) (cs := [.int .i64 x127]) slice31 zero3 rfl rfl (by decide) (by decide) rfl rfl fun r130 H131 hb132 => ?_) 
                        have h := h r130 H131 hb132
                        refine op_dst rfl rfl (by decide) (do_append (zs := [.int .i64 0]) slice31 bytes3 (by decide) zero3 rfl rfl (by decide) rfl rfl Try.underlying31 rfl h fun r133 H134 h => ?_) 
                        obtain ⟨q136b, q136o, q136c, q136e, hq136a, hq136b, hq136l, hq136v, h⟩ := h
                        refine op_none rfl rfl (do_store (vs := [Sl.v r133]) size31 (pta rfl hq136a) rfl rfl rfl hq136v hq136b hq136l ?_) 
                        refine GoOps.nil ?_
                        refine Go.inBlock ?_
                        exact Go.fallM (g := ()) hM hB hA ⟨0, rfl, h⟩
                      · intro q138 H139 h
                        intro D M hM hB hA
                        refine Go.inBlock ?_
                        refine Go.seq ?_
                        refine Go.draw mixed ?_
                        refine plan_pure (i := 0) (d := 144) (S2 := 1) (v := .pointer y28) rfl (by decide +kernel) rfl (q_move e82_8) ?_
                        obtain ⟨x140, hx141, h⟩ := h
                        refine plan_load (i := 2) (d := 146) (S2 := 5) (v := Sl.v x140) rfl (by decide +kernel) rfl (q_load scalar31 rfl hx141) ?_
                        refine plan_one (j := 1) (S2 := 7) (by decide +kernel) rfl (by decide) rfl ?_
                        refine do_call2 body13 (keelsonlaw11_dirty_s _ _ _ _ h) rfl ?_
                        rintro _ H142 ⟨y143, rfl, h⟩
                        obtain ⟨hr144, h⟩ := h
                        refine ⟨_, (.inr ⟨⟨_, _, rfl, rfl, q_load scalar31 rfl hr144⟩, _, rfl, rfl⟩), ?_⟩
                        refine plan_one (j := 3) (S2 := 15) (by decide +kernel) rfl (by decide) rfl ?_
                        refine do_call2 body12 (keelsonalike_Ints_s _ _ _ _ h) rfl ?_
                        rintro _ H145 ⟨y146, rfl, h⟩
                        refine ⟨_, (.inl ⟨⟨[3], by decide +kernel, rfl⟩, rfl⟩), ?_⟩
                        refine plan_pure (i := 4) (d := 148) (S2 := 31) (v := .bool y146) rfl (by decide +kernel) rfl (q_move rfl) ?_
                        refine join_plan 127 [] (fun ρ (s148 : Bool) => ρ 150 = .bool s148) h ?_ ?_ <;> clear h
                        · intro s148 H150 ρ h hE
                          have e151_150 := hE
                          refine plan_pure (i := 7) (d := 6) (S2 := 255) (v := .bool s148) rfl (by decide +kernel) rfl (q_assign e151_150) ?_
                          refine plan_done (by decide +kernel) ?_
                          exact Go.retM (g := ()) hM hB hA ⟨.inl rfl, _, (resOk1 Try.results4 rfl), ⟨_, rfl, h⟩⟩
                        · intro j149 hj149 h
                          rcases bor y146 with hc147 | hc147
                          · have h := h.1 hc147
                            refine plan_one (j := 5) (S2 := 63) (by decide +kernel) rfl (by decide) (want_yes rfl rfl rfl hc147) ?_
                            refine do_call2 body7 (keelsonlaw11_awake_s _ _ h) rfl ?_
                            rintro _ H152 ⟨y153, rfl, h⟩
                            refine ⟨_, rfl, ?_⟩
                            refine plan_pure (i := 6) (d := 150) (S2 := 127) (v := .bool y153) rfl (by decide +kernel) rfl (q_pickT (btT rfl hc147) rfl) ?_
                            exact hj149 _ _ _ h rfl
                          · have h := h.2 hc147
                            refine plan_skip (i := 5) (d := 149) (S2 := 63) rfl (by decide +kernel) (want_no rfl rfl rfl hc147) ?_
                            refine plan_pure (i := 6) (d := 150) (S2 := 127) (v := .bool false) rfl (by decide +kernel) rfl (q_pickF (btF rfl hc147) rfl) ?_
                            exact hj149 _ _ _ h rfl
            · intro j33 hj33 h
              rcases bor (Option.isNone y28) with hc31 | hc31
              · have h := h.1 hc31
                refine no_dst (want_no rfl rfl rfl hc31) rfl (by decide) ?_
                refine no_dst (want_no rfl rfl rfl hc31) rfl (by decide) ?_
                refine GoOps.q (v := .bool true) rfl rfl (by decide) (q_pickT (btT rfl hc31) rfl) ?_
                exact hj33 true _ _ h (by exact ⟨e20_0, e20_2, rfl, rfl, rfl, rfl⟩)
              · have h := h.2 hc31
                refine GoOps.q (v := .pointer y30) (want_yes rfl rfl rfl hc31) rfl (by decide) (q_move rfl) ?_
                refine GoOps.q (v := .bool (Option.isNone y30)) (want_yes rfl rfl rfl hc31) rfl (by decide) (q_eqlPn Try.underlying36 rfl rfl) ?_
                refine GoOps.q (v := .bool (Option.isNone y30)) rfl rfl (by decide) (q_pickF (btF rfl hc31) rfl) ?_
                exact hj33 (Option.isNone y30) _ _ h (by exact ⟨e20_0, e20_2, rfl, rfl, rfl, rfl⟩)
        · intro j18 hj18 h
          rcases bor s12 with hc16 | hc16
          · have h := h.1 hc16
            refine no_dst (want_no rfl rfl rfl hc16) rfl (by decide) ?_
            refine no_dst (want_no rfl rfl rfl hc16) rfl (by decide) ?_
            refine no_dst (want_no rfl rfl rfl hc16) rfl (by decide) ?_
            refine GoOps.q (v := .bool true) rfl rfl (by decide) (q_pickT (btT rfl hc16) rfl) ?_
            exact hj18 true _ _ h (by exact ⟨e15_0, e15_1, e15_2, rfl⟩)
          · have h := h.2 hc16
            refine GoOps.q (v := Sl.v p2) (want_yes rfl rfl rfl hc16) rfl (by decide) (q_move e15_2) ?_
            refine GoOps.q (v := .int .i64 (p2.len : Int)) (want_yes rfl rfl rfl hc16) rfl (by decide) (q_len Try.underlying22 rfl (ls1 rfl)) ?_
            refine GoOps.q (v := .bool (decide (40 < (p2.len : Int)))) (want_yes rfl rfl rfl hc16) rfl (by decide) (q_gtr rfl rfl) ?_
            refine GoOps.q (v := .bool (decide (40 < (p2.len : Int)))) rfl rfl (by decide) (q_pickF (btF rfl hc16) rfl) ?_
            exact hj18 (decide (40 < (p2.len : Int))) _ _ h (by exact ⟨e15_0, e15_1, e15_2, rfl⟩)
      · intro j13 hj13 h
        rcases bor s7 with hc11 | hc11
        · have h := h.1 hc11
          refine no_dst (want_no rfl rfl rfl hc11) rfl (by decide) ?_
          refine no_dst (want_no rfl rfl rfl hc11) rfl (by decide) ?_
          refine GoOps.q (v := .bool true) rfl rfl (by decide) (q_pickT (btT rfl hc11) rfl) ?_
          exact hj13 true _ _ h (by exact ⟨e10_0, e10_1, e10_2, rfl⟩)
        · have h := h.2 hc11
          refine GoOps.q (v := .int .i64 p1) (want_yes rfl rfl rfl hc11) rfl (by decide) (q_move e10_1) ?_
          refine GoOps.q (v := .bool (decide (60 < p1))) (want_yes rfl rfl rfl hc11) rfl (by decide) (q_gtr rfl rfl) ?_
          refine GoOps.q (v := .bool (decide (60 < p1))) rfl rfl (by decide) (q_pickF (btF rfl hc11) rfl) ?_
          exact hj13 (decide (60 < p1)) _ _ h (by exact ⟨e10_0, e10_1, e10_2, rfl⟩)
    · intro j8 hj8 h
      rcases bor s2 with hc6 | hc6
      · have h := h.1 hc6
        refine no_dst (want_no rfl rfl rfl hc6) rfl (by decide) ?_
        refine no_dst (want_no rfl rfl rfl hc6) rfl (by decide) ?_
        refine GoOps.q (v := .bool true) rfl rfl (by decide) (q_pickT (btT rfl hc6) rfl) ?_
        exact hj8 true _ _ h (by exact ⟨e5_0, e5_1, e5_2, rfl⟩)
      · have h := h.2 hc6
        refine GoOps.q (v := .int .i64 p1) (want_yes rfl rfl rfl hc6) rfl (by decide) (q_move e5_1) ?_
        refine GoOps.q (v := .bool (decide (p1 < 1))) (want_yes rfl rfl rfl hc6) rfl (by decide) (q_lss rfl rfl) ?_
        refine GoOps.q (v := .bool (decide (p1 < 1))) rfl rfl (by decide) (q_pickF (btF rfl hc6) rfl) ?_
        exact hj8 (decide (p1 < 1)) _ _ h (by exact ⟨e5_0, e5_1, e5_2, rfl⟩)
  · intro j3 hj3 h
    rcases bor (decide (p0 < 1)) with hc1 | hc1
    · have h := h.1 hc1
      refine no_dst (want_no rfl rfl rfl hc1) rfl (by decide) ?_
      refine no_dst (want_no rfl rfl rfl hc1) rfl (by decide) ?_
      refine GoOps.q (v := .bool true) rfl rfl (by decide) (q_pickT (btT rfl hc1) rfl) ?_
      exact hj3 true _ _ h (by exact ⟨rfl, rfl, rfl, rfl⟩)
    · have h := h.2 hc1
      refine GoOps.q (v := .int .i64 p0) (want_yes rfl rfl rfl hc1) rfl (by decide) (q_move rfl) ?_
      refine GoOps.q (v := .bool (decide (60 < p0))) (want_yes rfl rfl rfl hc1) rfl (by decide) (q_gtr rfl rfl) ?_
      refine GoOps.q (v := .bool (decide (60 < p0))) rfl rfl (by decide) (q_pickF (btF rfl hc1) rfl) ?_
      exact hj3 (decide (60 < p0)) _ _ h (by exact ⟨rfl, rfl, rfl, rfl⟩)

/-- (*keelson.paged.Paged[int]).All$1 -/
def paged_Paged_int_All_c1 {γ : Type} (c0 : Addr) (Y : List Value → γ → PH → (Nat → γ → PH → Prop) → Prop) (g : γ) (H : PH) (Q : Nat → γ → PH → Prop) : Prop :=
  mLd .pointer H c0 fun x1 =>
  paged_Paged_int_Len x1 H fun y4 H3 =>
  mLoop (fun (s5 : Int × (Nat × γ)) (H8 : PH) (again6 : (Int × (Nat × γ)) → PH → Prop) =>
  mIf (decide (s5.1 < y4))
  (mLd .pointer H8 c0 fun x10 =>
  mNil x10 fun a12 =>
  mLd Sl.v H8 (a12.add 0) fun x14 =>
  mIdx x14 1 s5.1 fun a16 =>
  mLd (.int .i64) H8 a16 fun x18 =>
  mYield Y s5.2 [.int .i64 s5.1, .int .i64 x18] H8 fun q20 H21 =>
  mIf (!(q20.1 == 0))
  (Q q20.1 q20.2 H21)
  (again6 (IntKind.wrap .i64 (s5.1 + 1), q20) H21))
  (Q s5.2.1 s5.2.2 H8))
  (0, (0, g)) H3

set_option maxRecDepth 20000 in
set_option maxHeartbeats 1000000 in
theorem paged_Paged_int_All_c1_s {γ : Type} (c0 : Addr) (Y : List Value → γ → PH → (Nat → γ → PH → Prop) → Prop) (g : γ) (H : PH) (Q : Nat → γ → PH → Prop) (h : paged_Paged_int_All_c1 c0 Y g H Q) :
    IterH Try.prog (.func (.func 39) #[] #[.pointer (some c0)]) Y g H Q := by
  unfold paged_Paged_int_All_c1 at h
  refine iterH_of_goM (fi := []) (ca := [.pointer (some c0)]) body39 Try.func39 rfl Try.ntmps39 (Nat.le_of_ble_eq_true rfl) fun l Tk hd hy => ?_
  generalize hyv : Value.func (.yield l) #[] #[] = yv
  intro D M hM hB hA
  refine Go.seq ?_
  refine Go.region rfl ?_
  obtain ⟨x1, hx2, h⟩ := h
  refine GoOps.q (v := .pointer x1) rfl rfl (by decide) (q_load scalar24 rfl hx2) ?_
  refine call_dst rfl (by decide) body24 (paged_Paged_int_Len_s _ _ _ h) rfl ?_
  rintro _ H3 ⟨y4, rfl, h⟩
  refine GoOps.q (v := .int .i64 0) rfl rfl (by decide) (q_move rfl) ?_
  refine GoOps.nil ?_
  refine Go.block ?_
  refine loop_goM (g := (0, g)) (fun s5 => s5.2) (fun ρ (s5 : Int × (Nat × γ)) => ρ 0 = yv ∧ ρ 1 = .pointer (some c0) ∧ ρ 5 = .int .i64 y4 ∧ ρ 6 = .int .i64 s5.1) hM hB hA h ⟨rfl, rfl, rfl, rfl⟩ rfl ?_
  clear h
  intro ρ s5 H8 again6 hE h hagain6
  obtain ⟨e7_0, e7_1, e7_5, e7_6⟩ := hE
  intro D M hM hB hA
  refine Go.seq ?_
  refine Go.region rfl ?_
  refine GoOps.q (v := .bool (decide (s5.1 < y4))) rfl rfl (by decide) (q_lss e7_6 e7_5) ?_
  refine GoOps.nil ?_
  refine Go.seq ?_
  rcases bor (decide (s5.1 < y4)) with hc9 | hc9
  · have h := h.1 hc9
    refine Go.condT (btT rfl hc9) ?_
    refine Go.skip ?_
    refine Go.seq ?_
    refine Go.block ?_
    refine Go.seq ?_
    refine Go.region rfl ?_
    refine GoOps.q (v := .int .i64 s5.1) rfl rfl (by decide) (q_move e7_6) ?_
    refine GoOps.q (v := .int .i64 s5.1) rfl rfl (by decide) (q_assign rfl) ?_
    refine GoOps.nil ?_
    refine Go.seq ?_
    refine Go.region rfl ?_
    refine GoOps.q (v := yv) rfl rfl (by decide) (q_move e7_0) ?_
    refine GoOps.q (v := .int .i64 s5.1) rfl rfl (by decide) (q_move rfl) ?_
    obtain ⟨x10, hx11, h⟩ := h
    refine GoOps.q (v := .pointer x10) rfl rfl (by decide) (q_load scalar24 e7_1 hx11) ?_
    obtain ⟨a12, ha13, h⟩ := h
    refine GoOps.q (v := .pointer (some a12)) rfl rfl (by decide) (q_nilCheck (ptn rfl ha13)) ?_
    refine GoOps.q (v := .pointer (some (a12.add 0))) rfl rfl (by decide) (q_fieldAddr foff60_0 rfl) ?_
    obtain ⟨x14, hx15, h⟩ := h
    refine GoOps.q (v := Sl.v x14) rfl rfl (by decide) (q_load scalar31 rfl hx15) ?_
    refine GoOps.q (v := .int .i64 s5.1) rfl rfl (by decide) (q_move rfl) ?_
    obtain ⟨a16, ha17, h⟩ := h
    refine GoOps.q (v := .pointer (some a16)) rfl rfl (by decide) (q_idx slice31 ha17 rfl rfl) ?_
    obtain ⟨x18, hx19, h⟩ := h
    refine GoOps.q (v := .int .i64 x18) rfl rfl (by decide) (q_load scalar3 rfl hx19) ?_
    refine op_dst rfl rfl (by decide) (do_yieldP (q := s5.2) hy hA (Eq.trans rfl hyv.symm) rfl h fun q20 H21 h => ?_) 
    refine GoOps.q (v := .bool (!(q20.1 == 0))) rfl rfl (by decide) (q_not rfl) ?_
    refine GoOps.nil ?_
    rcases bor (!(q20.1 == 0)) with hc22 | hc22
    · have h := h.1 hc22
      refine Go.condT (btT rfl hc22) ?_
      exact Go.retM (g := q20) hM hB hA ⟨.inl rfl, _, (resOk0 Try.results39), h⟩
    · have h := h.2 hc22
      refine Go.condF (btF rfl hc22) ?_
      refine Go.skip ?_
      refine Go.inBlock ?_
      refine Go.region rfl ?_
      refine GoOps.q (v := .int .i64 (IntKind.wrap .i64 (s5.1 + 1))) rfl rfl (by decide) (q_add e7_6 rfl) ?_
      refine GoOps.q (v := .int .i64 (IntKind.wrap .i64 (s5.1 + 1))) rfl rfl (by decide) (q_move rfl) ?_
      refine GoOps.nil ?_
      exact hagain6 (IntKind.wrap .i64 (s5.1 + 1), q20) _ _ h (by exact ⟨e7_0, e7_1, e7_5, rfl⟩) _ _ hM hB hA
  · have h := h.2 hc9
    refine Go.condF (btF rfl hc9) ?_
    refine Go.exit rfl ?_
    exact Go.fallM (g := s5.2) hM hB hA ⟨.inr rfl, _, (resOk0 Try.results39), h⟩

/-- (*keelson.paged.Paged[int]).All -/
def paged_Paged_int_All (p0 : Option Addr) (H : PH) (Q : Value → PH → Prop) : Prop :=
  mNew H (row [.pointer p0] 24) fun a1 H2 =>
  Q (.func (.func 39) #[] #[.pointer (some a1)]) H2

set_option maxRecDepth 20000 in
set_option maxHeartbeats 1000000 in
theorem paged_Paged_int_All_s (p0 : Option Addr) (H : PH) (Q : Value → PH → Prop) (h : paged_Paged_int_All p0 H Q) :
    CallsH Try.prog 36 #[.pointer p0] H (fun v H' => ∃ (r0 : Value), v = r0 ∧ Q r0 H') := by
  unfold paged_Paged_int_All at h
  refine callsH_of_go Try.func36 rfl Try.ntmps36 (Nat.le_of_ble_eq_true rfl) ?_
  refine Go.seq ?_
  refine Go.region rfl ?_
  refine op_dst rfl rfl (by decide) (do_newBox (cs := [.pointer p0]) rfl rfl fun a1 H2 hb3 => ?_) 
  have h := h a1 H2 hb3
  refine GoOps.q (v := .nilFunc) rfl rfl (by decide) (q_assign rfl) ?_
  refine GoOps.nil ?_
  refine Go.seq ?_
  refine Go.region rfl ?_
  refine GoOps.q (v := (.func (.func 39) #[] #[.pointer (some a1)])) rfl rfl (by decide) (q_makeFunc rfl rfl) ?_
  refine GoOps.q (v := (.func (.func 39) #[] #[.pointer (some a1)])) rfl rfl (by decide) (q_assign rfl) ?_
  refine GoOps.nil ?_
  exact Go.ret ⟨.inl rfl, _, _, DOk.nil, (resOk1 Try.results36 rfl), ⟨_, rfl, h⟩⟩

/-- keelson.keelsonlaw11.all -/
def keelsonlaw11_all (p0 : Option Addr) (H : PH) (Q : Sl → Bool → PH → Prop) : Prop :=
  mNew H (row [.slice none 0 0] 31) fun a1 H2 =>
  mNew H2 (row [.bool false] 4) fun a4 H5 =>
  paged_Paged_int_All p0 H5 fun y8 H7 =>
  mBoth (IsFn y8) <|
  mIf (fisNil y8)
  (mSt H7 a1 ([Sl.v Sl.nil]) fun H11 =>
  mSt H11 a4 ([.bool false]) fun H13 =>
  mLd Sl.v H13 a1 fun x15 =>
  mLd .bool H13 a4 fun x17 =>
  Q x15 x17 H13)
  (mNew H7 (row [.slice none 0 0] 31) fun a19 H20 =>
  IterH Try.prog y8 (fun (vs22 : List Value) (q23 : Unit) (H24 : PH) (y25 : Nat → Unit → PH → Prop) =>
  ∃ (x26 : Int) (x27 : Int), vs22 = [.int .i64 x26, .int .i64 x27] ∧
  mLd Sl.v H24 a19 fun x28 =>
  mJoin (fun (s31 : Bool) (H33 : PH) =>
  mIf s31
  (mSt H33 a1 ([Sl.v Sl.nil]) fun H36 =>
  mSt H36 a4 ([.bool false]) fun H38 =>
  y25 1 () H38)
  (mLd Sl.v H33 a19 fun x40 =>
  mNewS H33 (row [.int .i64 x27] 3) 1 fun r42 H43 =>
  mApp H43 3 1 8 [.int .i64 0] x40 r42 fun r45 H46 =>
  mSt H46 a19 ([Sl.v r45]) fun H47 =>
  y25 0 () H47))
  fun j32 =>
  mIf (x26 != (x28.len : Int))
  (j32 true H24)
  (mLd Sl.v H24 a19 fun x49 =>
  j32 (decide (70000 < (x49.len : Int))) H24)) () H20 fun j51 q52 H53 =>
  mIf (j51 == 1)
  (mLd Sl.v H53 a1 fun x64 =>
  mLd .bool H53 a4 fun x66 =>
  Q x64 x66 H53)
  (mLd Sl.v H53 a19 fun x54 =>
  mSt H53 a1 ([Sl.v x54]) fun H56 =>
  mSt H56 a4 ([.bool true]) fun H58 =>
  mLd Sl.v H58 a1 fun x60 =>
  mLd .bool H58 a4 fun x62 =>
  Q x60 x62 H58))

set_option maxRecDepth 20000 in
set_option maxHeartbeats 1000000 in
theorem keelsonlaw11_all_s (p0 : Option Addr) (H : PH) (Q : Sl → Bool → PH → Prop) (h : keelsonlaw11_all p0 H Q) :
    CallsH Try.prog 22 #[.pointer p0] H (fun v H' => ∃ (r0 : Sl) (r1 : Bool), v = .tuple #[Sl.v r0, .bool r1] ∧ Q r0 r1 H') := by
  unfold keelsonlaw11_all at h
  refine callsH_of_goM Try.func22 rfl Try.ntmps22 (Nat.le_of_ble_eq_true rfl) ?_
  intro D M hM hB hA
  refine Go.seq ?_
  refine Go.region rfl ?_
  refine op_dst rfl rfl (by decide) (do_new zero31 rfl fun a1 H2 hb3 => ?_) 
  have h := h a1 H2 hb3
  refine op_dst rfl rfl (by decide) (do_new zero4 rfl fun a4 H5 hb6 => ?_) 
  have h := h a4 H5 hb6
  refine GoOps.nil ?_
  refine Go.seq ?_
  refine Go.region rfl ?_
  refine GoOps.q (v := .pointer p0) rfl rfl (by decide) (q_move rfl) ?_
  refine call_dst rfl (by decide) body36 (paged_Paged_int_All_s _ _ _ h) rfl ?_
  rintro y8 H7 ⟨_, rfl, h⟩
  refine GoOps.q (v := y8) rfl rfl (by decide) (q_assign rfl) ?_
  refine GoOps.nil ?_
  refine Go.seq ?_
  refine Go.seq ?_
  refine Go.region rfl ?_
  refine GoOps.q (v := y8) rfl rfl (by decide) (q_move rfl) ?_
  obtain ⟨hf9, h⟩ := h
  refine GoOps.q (v := .bool (fisNil y8)) rfl rfl (by decide) (q_eqlFv Try.underlying67 rfl rfl hf9) ?_
  refine GoOps.nil ?_
  rcases bor (fisNil y8) with hc10 | hc10
  · have h := h.1 hc10
    refine Go.condT (btT rfl hc10) ?_
    refine Go.seq ?_
    refine Go.region rfl ?_
    obtain ⟨q12b, q12o, q12c, q12e, hq12a, hq12b, hq12l, hq12v, h⟩ := h
    refine op_none rfl rfl (do_store (vs := [Sl.v Sl.nil]) size31 (pta rfl hq12a) rfl rfl rfl hq12v hq12b hq12l ?_) 
    obtain ⟨q14b, q14o, q14c, q14e, hq14a, hq14b, hq14l, hq14v, h⟩ := h
    refine op_none rfl rfl (do_store (vs := [.bool false]) size4 (pta rfl hq14a) rfl rfl rfl hq14v hq14b hq14l ?_) 
    refine GoOps.nil ?_
    obtain ⟨x15, hx16, h⟩ := h
    obtain ⟨x17, hx18, h⟩ := h
    exact Go.retM (g := ()) hM hB hA ⟨.inl rfl, _, (resOkV2 Try.results22 (rv_cell scalar31 rfl hx16) (rv_cell scalar4 rfl hx18)), ⟨_, _, rfl, h⟩⟩
  · have h := h.2 hc10
    refine Go.condF (btF rfl hc10) ?_
    refine Go.skip ?_
    refine Go.seq ?_
    refine Go.region rfl ?_
    refine op_dst rfl rfl (by decide) (do_new zero31 rfl fun a19 H20 hb21 => ?_) 
    have h := h a19 H20 hb21
    refine GoOps.nil ?_
    refine Go.seq ?_
    refine Go.seq ?_
    refine Go.region rfl ?_
    refine GoOps.q (v := y8) rfl rfl (by decide) (q_move rfl) ?_
    refine GoOps.nil ?_
    refine Go.block ?_
    refine go_range1 (g := ()) (c1 := .ret) h rfl (fun _ _ _ h => h) rfl hM hB hA trivial ?_ ?_ ?_ <;> clear h
    · rintro _ q23 H24 y25 ⟨x26, x27, rfl, h⟩
      refine ⟨rfl, fun lp Bx r hr => ?_⟩
      clear hM hB hA
      intro D M hM hB hA
      refine Go.seq ?_
      refine Go.region rfl ?_
      refine GoOps.q (v := .int .i64 x26) rfl rfl (by decide) (q_assign rfl) ?_
      refine GoOps.nil ?_
      refine Go.region rfl ?_
      refine GoOps.q (v := .int .i64 x27) rfl rfl (by decide) (q_assign rfl) ?_
      refine GoOps.nil ?_
      refine go_begin (g := ()) hr hB hA fun M hB hA => ?_
      have hM : Mk (some lp) D M := trivial
      refine Go.block ?_
      refine Go.seq ?_
      refine Go.seq ?_
      refine Go.region rfl ?_
      refine GoOps.q (v := .int .i64 x26) rfl rfl (by decide) (q_move rfl) ?_
      obtain ⟨x28, hx29, h⟩ := h
      refine GoOps.q (v := Sl.v x28) rfl rfl (by decide) (q_load scalar31 rfl hx29) ?_
      refine GoOps.q (v := .int .i64 (x28.len : Int)) rfl rfl (by decide) (q_len Try.underlying31 rfl (ls1 rfl)) ?_
      refine GoOps.q (v := .bool (x26 != (x28.len : Int))) rfl rfl (by decide) (q_neq rfl rfl) ?_
      refine GoOps.q (v := .bool (x26 != (x28.len : Int))) rfl rfl (by decide) (q_move rfl) ?_
      refine join_ops 4 (fun ρ (s31 : Bool) => ρ 2 = .pointer (some a1) ∧ ρ 3 = .pointer (some a4) ∧ ρ 5 = .pointer (some a19) ∧ ρ 7 = .int .i64 x27 ∧ ρ 23 = .bool s31) h ?_ ?_ <;> clear h
      · intro s31 H33 ρ h hE
        obtain ⟨e34_2, e34_3, e34_5, e34_7, e34_23⟩ := hE
        refine GoOps.nil ?_
        rcases bor s31 with hc35 | hc35
        · have h := h.1 hc35
          refine Go.condT (btT e34_23 hc35) ?_
          refine Go.seq ?_
          refine Go.region rfl ?_
          obtain ⟨q37b, q37o, q37c, q37e, hq37a, hq37b, hq37l, hq37v, h⟩ := h
          refine op_none rfl rfl (do_store (vs := [Sl.v Sl.nil]) size31 (pta e34_2 hq37a) rfl rfl rfl hq37v hq37b hq37l ?_) 
          obtain ⟨q39b, q39o, q39c, q39e, hq39a, hq39b, hq39l, hq39v, h⟩ := h
          refine op_none rfl rfl (do_store (vs := [.bool false]) size4 (pta e34_3 hq39a) rfl rfl rfl hq39v hq39b hq39l ?_) 
          refine GoOps.nil ?_
          exact Go.retM (g := ()) hM hB hA ⟨1, ⟨0, rfl, rfl⟩, h⟩
        · have h := h.2 hc35
          refine Go.condF (btF e34_23 hc35) ?_
          refine Go.skip ?_
          refine Go.region rfl ?_
          obtain ⟨x40, hx41, h⟩ := h
          refine GoOps.q (v := Sl.v x40) rfl rfl (by decide) (q_load scalar31 e34_5 hx41) ?_
          refine GoOps.q (v := .int .i64 x27) rfl rfl (by decide) (q_move e34_7) ?_
          refine op_dst rfl rfl (by decide) (do_bs (ps := [(0, .int .i64 x27)]) (zs := [.int .i64 0]) (cs := [.int .i64 x27]) slice31 zero3 rfl rfl (by decide) (by decide) rfl rfl fun r42 H43 hb44 => ?_) 
          have h := h r42 H43 hb44
          refine op_dst rfl rfl (by decide) (do_append (zs := [.int .i64 0]) slice31 bytes3 (by decide) zero3 rfl rfl (by decide) rfl rfl Try.underlying31 rfl h fun r45 H46 h => ?_) 
          obtain ⟨q48b, q48o, q48c, q48e, hq48a, hq48b, hq48l, hq48v, h⟩ := h
          refine op_none rfl rfl (do_store (vs := [Sl.v r45]) size31 (pta e34_5 hq48a) rfl rfl rfl hq48v hq48b hq48l ?_) 
          refine GoOps.nil ?_
          refine Go.inBlock ?_
          exact Go.fallM (g := ()) hM hB hA ⟨0, rfl, h⟩
      · intro j32 hj32 h
        rcases bor (x26 != (x28.len : Int)) with hc30 | hc30
        · have h := h.1 hc30
          refine no_dst (want_no rfl rfl rfl hc30) rfl (by decide) ?_
          refine no_dst (want_no rfl rfl rfl hc30) rfl (by decide) ?_
          refine no_dst (want_no rfl rfl rfl hc30) rfl (by decide) ?_
          refine GoOps.q (v := .bool true) rfl rfl (by decide) (q_pickT (btT rfl hc30) rfl) ?_
          exact hj32 true _ _ h (by exact ⟨rfl, rfl, rfl, rfl, rfl⟩)
        · have h := h.2 hc30
          obtain ⟨x49, hx50, h⟩ := h
          refine GoOps.q (v := Sl.v x49) (want_yes rfl rfl rfl hc30) rfl (by decide) (q_load scalar31 rfl hx50) ?_
          refine GoOps.q (v := .int .i64 (x49.len : Int)) (want_yes rfl rfl rfl hc30) rfl (by decide) (q_len Try.underlying31 rfl (ls1 rfl)) ?_
          refine GoOps.q (v := .bool (decide (70000 < (x49.len : Int)))) (want_yes rfl rfl rfl hc30) rfl (by decide) (q_gtr rfl rfl) ?_
          refine GoOps.q (v := .bool (decide (70000 < (x49.len : Int)))) rfl rfl (by decide) (q_pickF (btF rfl hc30) rfl) ?_
          exact hj32 (decide (70000 < (x49.len : Int))) _ _ h (by exact ⟨rfl, rfl, rfl, rfl, rfl⟩)
    · intro q52 H53 h
      intro D M hM hB hA
      refine Go.inBlock ?_
      refine Go.seq ?_
      refine Go.region rfl ?_
      obtain ⟨x54, hx55, h⟩ := h
      refine GoOps.q (v := Sl.v x54) rfl rfl (by decide) (q_load scalar31 rfl hx55) ?_
      obtain ⟨q57b, q57o, q57c, q57e, hq57a, hq57b, hq57l, hq57v, h⟩ := h
      refine op_none rfl rfl (do_store (vs := [Sl.v x54]) size31 (pta rfl hq57a) rfl rfl rfl hq57v hq57b hq57l ?_) 
      obtain ⟨q59b, q59o, q59c, q59e, hq59a, hq59b, hq59l, hq59v, h⟩ := h
      refine op_none rfl rfl (do_store (vs := [.bool true]) size4 (pta rfl hq59a) rfl rfl rfl hq59v hq59b hq59l ?_) 
      refine GoOps.nil ?_
      obtain ⟨x60, hx61, h⟩ := h
      obtain ⟨x62, hx63, h⟩ := h
      exact Go.retM (g := ()) hM hB hA ⟨.inl rfl, _, (resOkV2 Try.results22 (rv_cell scalar31 rfl hx61) (rv_cell scalar4 rfl hx63)), ⟨_, _, rfl, h⟩⟩
    · intro q52 H53 h
      intro D M hM hB hA
      obtain ⟨x64, hx65, h⟩ := h
      obtain ⟨x66, hx67, h⟩ := h
      exact Go.retM (g := ()) hM hB hA ⟨.inl rfl, _, (resOkV2 Try.results22 (rv_cell scalar31 rfl hx65) (rv_cell scalar4 rfl hx67)), ⟨_, _, rfl, h⟩⟩

/-- keelson.keelsonlaw11.PagedPages -/
def keelsonlaw11_PagedPages (p0 : Int) (p1 : Int) (p2 : Sl) (H : PH) (Q : Bool → PH → Prop) : Prop :=
  mJoin (fun (s2 : Bool) (H4 : PH) =>
  mJoin (fun (s7 : Bool) (H9 : PH) =>
  mJoin (fun (s12 : Bool) (H14 : PH) =>
  mJoin (fun (s17 : Bool) (H19 : PH) =>
  mIf s17
  (keelsonlaw11_awake H19 fun y23 H22 =>
  Q y23 H22)
  (paged_New_int p0 p1 7 H19 fun y25 H24 =>
  mIf (Option.isNone y25)
  (Q false H24)
  (mLoop (fun (s27 : Int) (H30 : PH) (again28 : Int → PH → Prop) =>
  mIf (decide (s27 < (p2.len : Int)))
  (mIdx p2 2 s27 fun a32 =>
  mIdxA 2 a32 1 0 fun a34 =>
  mLd (.int .i64) H30 a34 fun x36 =>
  mIdx p2 2 s27 fun a38 =>
  mIdxA 2 a38 1 1 fun a40 =>
  mLd (.int .i64) H30 a40 fun x42 =>
  keelsonalike_Round x36 p0 H30 fun y45 H44 =>
  mSame H44 a40 (.int .i64 x42) <|
  paged_Paged_int_Set y25 y45 x42 H44 fun y48 H47 =>
  mIf (!y48)
  (Q false H47)
  (again28 (IntKind.wrap .i64 (s27 + 1)) H47))
  (mLoop (fun (s50 : Sl × Int) (H53 : PH) (again51 : (Sl × Int) → PH → Prop) =>
  paged_Paged_int_Pages y25 H53 fun y55 H54 =>
  mIf (decide (s50.2 < y55))
  (paged_Paged_int_Page y25 s50.2 H54 fun y58 H57 =>
  mJoin (fun (s60 : Bool) (H62 : PH) =>
  mJoin (fun (s65 : Bool) (H67 : PH) =>
  mIf s65
  (Q false H67)
  (mApp H67 3 1 8 [.int .i64 0] s50.1 y58 fun r70 H71 =>
  mLoop (fun (s72 : Int) (H75 : PH) (again73 : Int → PH → Prop) =>
  mIf (decide (s72 < (y58.len : Int)))
  (mIdx y58 1 s72 fun a77 =>
  mLd (.int .i64) H75 a77 fun x79 =>
  mIdx y58 1 s72 fun a81 =>
  mSt H75 a81 ([.int .i64 (IntKind.wrap .i64 (x79 + 1))]) fun H83 =>
  again73 (IntKind.wrap .i64 (s72 + 1)) H83)
  (again51 (r70, IntKind.wrap .i64 (s50.2 + 1)) H75))
  0 H71))
  fun j66 =>
  mIf s60
  (j66 true H62)
  (paged_Paged_int_Pages y25 H62 fun y86 H85 =>
  mJoin (fun (s88 : Bool) (H90 : PH) =>
  j66 s88 H90)
  fun j89 =>
  mIf (decide (s50.2 < (IntKind.wrap .i64 (y86 - 1))))
  (j89 ((y58.len : Int) != p1) H85)
  (j89 false H85)))
  fun j61 =>
  mIf (decide ((y58.len : Int) < 1))
  (j61 true H57)
  (j61 (decide (p1 < (y58.len : Int))) H57))
  (keelsonlaw11_all y25 H54 fun y93 y94 H92 =>
  mJoin (fun (s96 : Bool) (H98 : PH) =>
  mJoin (fun (s101 : Bool) (H103 : PH) =>
  mJoin (fun (s106 : Bool) (H108 : PH) =>
  mJoin (fun (s111 : Bool) (H113 : PH) =>
  mJoin (fun (s116 : Bool) (H118 : PH) =>
  Q s116 H118)
  fun j117 =>
  mIf s111
  (keelsonlaw11_awake H113 fun y121 H120 =>
  j117 y121 H120)
  (j117 false H113))
  fun j112 =>
  mIf s106
  (paged_Paged_int_Page y25 (-1) H108 fun y123 H122 =>
  j112 ((y123.len : Int) == 0) H122)
  (j112 false H108))
  fun j107 =>
  mIf s101
  (paged_Paged_int_Pages y25 H103 fun y125 H124 =>
  paged_Paged_int_Page y25 y125 H124 fun y127 H126 =>
  j107 ((y127.len : Int) == 0) H126)
  (j107 false H103))
  fun j102 =>
  mIf s96
  (keelsonalike_Ints s50.1 y93 H98 fun y129 H128 =>
  j102 y129 H128)
  (j102 false H98))
  fun j97 =>
  mIf y94
  (j97 ((s50.1.len : Int) == p0) H92)
  (j97 false H92)))
  (Sl.nil, 0) H30))
  0 H24)))
  fun j18 =>
  mIf s12
  (j18 true H14)
  (j18 (decide (50 < (p2.len : Int))) H14))
  fun j13 =>
  mIf s7
  (j13 true H9)
  (j13 (decide (300 < p1)) H9))
  fun j8 =>
  mIf s2
  (j8 true H4)
  (j8 (decide (p1 < 1)) H4))
  fun j3 =>
  mIf (decide (p0 < 1))
  (j3 true H)
  (j3 (decide (200 < p0)) H)

set_option maxRecDepth 20000 in
set_option maxHeartbeats 1000000 in
theorem keelsonlaw11_PagedPages_s (p0 : Int) (p1 : Int) (p2 : Sl) (H : PH) (Q : Bool → PH → Prop) (h : keelsonlaw11_PagedPages p0 p1 p2 H Q) :
    CallsH Try.prog 5 #[.int .i64 p0, .int .i64 p1, Sl.v p2] H (fun v H' => ∃ (r0 : Bool), v = .bool r0 ∧ Q r0 H') := by
  unfold keelsonlaw11_PagedPages at h
  refine callsH_of_go Try.func5 rfl Try.ntmps5 (Nat.le_of_ble_eq_true rfl) ?_
  refine Go.seq ?_
  refine Go.region rfl ?_
  refine GoOps.q (v := .bool false) rfl rfl (by decide) (q_assign rfl) ?_
  refine GoOps.nil ?_
  refine Go.seq ?_
  refine Go.seq ?_
  refine Go.region rfl ?_
  refine GoOps.q (v := .int .i64 p0) rfl rfl (by decide) (q_move rfl) ?_
  refine GoOps.q (v := .bool (decide (p0 < 1))) rfl rfl (by decide) (q_lss rfl rfl) ?_
  refine GoOps.q (v := .bool (decide (p0 < 1))) rfl rfl (by decide) (q_move rfl) ?_
  refine join_ops 3 (fun ρ (s2 : Bool) => ρ 0 = .int .i64 p0 ∧ ρ 1 = .int .i64 p1 ∧ ρ 2 = Sl.v p2 ∧ ρ 20 = .bool s2) h ?_ ?_ <;> clear h
  · intro s2 H4 ρ h hE
    obtain ⟨e5_0, e5_1, e5_2, e5_20⟩ := hE
    refine GoOps.q (v := .bool s2) rfl rfl (by decide) (q_move e5_20) ?_
    refine join_ops 3 (fun ρ (s7 : Bool) => ρ 0 = .int .i64 p0 ∧ ρ 1 = .int .i64 p1 ∧ ρ 2 = Sl.v p2 ∧ ρ 24 = .bool s7) h ?_ ?_ <;> clear h
    · intro s7 H9 ρ h hE
      obtain ⟨e10_0, e10_1, e10_2, e10_24⟩ := hE
      refine GoOps.q (v := .bool s7) rfl rfl (by decide) (q_move e10_24) ?_
      refine join_ops 3 (fun ρ (s12 : Bool) => ρ 0 = .int .i64 p0 ∧ ρ 1 = .int .i64 p1 ∧ ρ 2 = Sl.v p2 ∧ ρ 28 = .bool s12) h ?_ ?_ <;> clear h
      · intro s12 H14 ρ h hE
        obtain ⟨e15_0, e15_1, e15_2, e15_28⟩ := hE
        refine GoOps.q (v := .bool s12) rfl rfl (by decide) (q_move e15_28) ?_
        refine join_ops 4 (fun ρ (s17 : Bool) => ρ 0 = .int .i64 p0 ∧ ρ 1 = .int .i64 p1 ∧ ρ 2 = Sl.v p2 ∧ ρ 33 = .bool s17) h ?_ ?_ <;> clear h
        · intro s17 H19 ρ h hE
          obtain ⟨e20_0, e20_1, e20_2, e20_33⟩ := hE
          refine GoOps.nil ?_
          rcases bor s17 with hc21 | hc21
          · have h := h.1 hc21
            refine Go.condT (btT e20_33 hc21) ?_
            refine Go.seq ?_
            refine Go.region rfl ?_
            refine call_dst rfl (by decide) body7 (keelsonlaw11_awake_s _ _ h) rfl ?_
            rintro _ H22 ⟨y23, rfl, h⟩
            refine GoOps.q (v := .bool y23) rfl rfl (by decide) (q_assign rfl) ?_
            refine GoOps.nil ?_
            exact Go.ret ⟨.inl rfl, _, _, DOk.nil, (resOk1 Try.results5 rfl), ⟨_, rfl, h⟩⟩
          · have h := h.2 hc21
            refine Go.condF (btF e20_33 hc21) ?_
            refine Go.skip ?_
            refine Go.seq ?_
            refine Go.region rfl ?_
            refine GoOps.q (v := .int .i64 p0) rfl rfl (by decide) (q_move e20_0) ?_
            refine GoOps.q (v := .int .i64 p1) rfl rfl (by decide) (q_move e20_1) ?_
            refine call_dst rfl (by decide) body8 (paged_New_int_s _ _ _ _ _ h) rfl ?_
            rintro _ H24 ⟨y25, rfl, h⟩
            refine GoOps.q (v := .pointer y25) rfl rfl (by decide) (q_assign rfl) ?_
            refine GoOps.nil ?_
            refine Go.seq ?_
            refine Go.seq ?_
            refine Go.region rfl ?_
            refine GoOps.q (v := .pointer y25) rfl rfl (by decide) (q_move rfl) ?_
            refine GoOps.q (v := .bool (Option.isNone y25)) rfl rfl (by decide) (q_eqlPn Try.underlying24 rfl rfl) ?_
            refine GoOps.nil ?_
            rcases bor (Option.isNone y25) with hc26 | hc26
            · have h := h.1 hc26
              refine Go.condT (btT rfl hc26) ?_
              refine Go.seq ?_
              refine Go.region rfl ?_
              refine GoOps.q (v := .bool false) rfl rfl (by decide) (q_assign rfl) ?_
              refine GoOps.nil ?_
              exact Go.ret ⟨.inl rfl, _, _, DOk.nil, (resOk1 Try.results5 rfl), ⟨_, rfl, h⟩⟩
            · have h := h.2 hc26
              refine Go.condF (btF rfl hc26) ?_
              refine Go.skip ?_
              refine Go.seq ?_
              refine Go.seq ?_
              refine Go.region rfl ?_
              refine GoOps.q (v := .int .i64 0) rfl rfl (by decide) (q_assign rfl) ?_
              refine GoOps.nil ?_
              refine Go.block ?_
              refine loop_go (fun ρ (s27 : Int) => ρ 0 = .int .i64 p0 ∧ ρ 1 = .int .i64 p1 ∧ ρ 2 = Sl.v p2 ∧ ρ 7 = .pointer y25 ∧ ρ 8 = .int .i64 s27) h ⟨e20_0, e20_1, e20_2, rfl, rfl⟩ ?_
              clear h
              intro ρ s27 H30 again28 hE h hagain28
              obtain ⟨e29_0, e29_1, e29_2, e29_7, e29_8⟩ := hE
              refine Go.seq ?_
              refine Go.seq ?_
              refine Go.region rfl ?_
              refine GoOps.q (v := .int .i64 s27) rfl rfl (by decide) (q_move e29_8) ?_
              refine GoOps.q (v := Sl.v p2) rfl rfl (by decide) (q_move e29_2) ?_
              refine GoOps.q (v := .int .i64 (p2.len : Int)) rfl rfl (by decide) (q_len Try.underlying22 rfl (ls1 rfl)) ?_
              refine GoOps.q (v := .bool (decide (s27 < (p2.len : Int)))) rfl rfl (by decide) (q_lss rfl rfl) ?_
              refine GoOps.nil ?_
              rcases bor (decide (s27 < (p2.len : Int))) with hc31 | hc31
              · have h := h.1 hc31
                refine Go.condT (btT rfl hc31) ?_
                refine Go.skip ?_
                refine Go.seq ?_
                refine Go.block ?_
                refine Go.seq ?_
                refine Go.draw mixed ?_
                refine plan_pure (i := 0) (d := 46) (S2 := 1) (v := .pointer y25) rfl (by decide +kernel) rfl (q_move e29_7) ?_
                refine plan_pure (i := 1) (d := 47) (S2 := 3) (v := Sl.v p2) rfl (by decide +kernel) rfl (q_move e29_2) ?_
                refine plan_pure (i := 2) (d := 48) (S2 := 7) (v := .int .i64 s27) rfl (by decide +kernel) rfl (q_move e29_8) ?_
                obtain ⟨a32, ha33, h⟩ := h
                refine plan_pure (i := 3) (d := 49) (S2 := 15) (v := .pointer (some a32)) rfl (by decide +kernel) rfl (q_idx slice22 ha33 rfl rfl) ?_
                obtain ⟨a34, ha35, h⟩ := h
                refine plan_pure (i := 4) (d := 50) (S2 := 31) (v := .pointer (some a34)) rfl (by decide +kernel) rfl (q_idxA array28 ha35 rfl rfl) ?_
                obtain ⟨x36, hx37, h⟩ := h
                refine plan_load (i := 5) (d := 51) (S2 := 63) (v := .int .i64 x36) rfl (by decide +kernel) rfl (q_load scalar3 rfl hx37) ?_
                refine plan_pure (i := 6) (d := 52) (S2 := 127) (v := .int .i64 p0) rfl (by decide +kernel) rfl (q_move e29_0) ?_
                refine plan_pure (i := 8) (d := 54) (S2 := 383) (v := Sl.v p2) rfl (by decide +kernel) rfl (q_move e29_2) ?_
                refine plan_pure (i := 9) (d := 55) (S2 := 895) (v := .int .i64 s27) rfl (by decide +kernel) rfl (q_move e29_8) ?_
                obtain ⟨a38, ha39, h⟩ := h
                refine plan_pure (i := 10) (d := 56) (S2 := 1919) (v := .pointer (some a38)) rfl (by decide +kernel) rfl (q_idx slice22 ha39 rfl rfl) ?_
                obtain ⟨a40, ha41, h⟩ := h
                refine plan_pure (i := 11) (d := 57) (S2 := 3967) (v := .pointer (some a40)) rfl (by decide +kernel) rfl (q_idxA array28 ha41 rfl rfl) ?_
                obtain ⟨x42, hx43, h⟩ := h
                refine plan_load (i := 12) (d := 58) (S2 := 8063) (v := .int .i64 x42) rfl (by decide +kernel) rfl (q_load scalar3 rfl hx43) ?_
                refine plan_one (j := 7) (S2 := 8191) (by decide +kernel) rfl (by decide) rfl ?_
                refine do_call2 body9 (keelsonalike_Round_s _ _ _ _ h) rfl ?_
                rintro _ H44 ⟨y45, rfl, h⟩
                obtain ⟨hr46, h⟩ := h
                refine ⟨_, (.inr ⟨⟨_, _, rfl, rfl, q_load scalar3 rfl hr46⟩, _, rfl, .inl ⟨⟨[7], by decide +kernel, rfl⟩, rfl⟩⟩), ?_⟩
                refine plan_one (j := 13) (S2 := 16383) (by decide +kernel) rfl (by decide) rfl ?_
                refine do_call2 body10 (paged_Paged_int_Set_s _ _ _ _ _ h) rfl ?_
                rintro _ H47 ⟨y48, rfl, h⟩
                refine ⟨_, (.inl ⟨⟨[13], by decide +kernel, rfl⟩, rfl⟩), ?_⟩
                refine plan_pure (i := 14) (d := 60) (S2 := 32767) (v := .bool (!y48)) rfl (by decide +kernel) rfl (q_not rfl) ?_
                refine plan_done (by decide +kernel) ?_
                rcases bor (!y48) with hc49 | hc49
                · have h := h.1 hc49
                  refine Go.condT (btT rfl hc49) ?_
                  refine Go.seq ?_
                  refine Go.region rfl ?_
                  refine GoOps.q (v := .bool false) rfl rfl (by decide) (q_assign rfl) ?_
                  refine GoOps.nil ?_
                  exact Go.ret ⟨.inl rfl, _, _, DOk.nil, (resOk1 Try.results5 rfl), ⟨_, rfl, h⟩⟩
                · have h := h.2 hc49
                  refine Go.condF (btF rfl hc49) ?_
                  refine Go.skip ?_
                  refine Go.inBlock ?_
                  refine Go.region rfl ?_
                  refine GoOps.q (v := .int .i64 s27) rfl rfl (by decide) (q_move e29_8) ?_
                  refine GoOps.q (v := .int .i64 (IntKind.wrap .i64 (s27 + 1))) rfl rfl (by decide) (q_add rfl rfl) ?_
                  refine GoOps.q (v := .int .i64 (IntKind.wrap .i64 (s27 + 1))) rfl rfl (by decide) (q_assign rfl) ?_
                  refine GoOps.nil ?_
                  exact hagain28 _ _ _ h ⟨e29_0, e29_1, e29_2, e29_7, rfl⟩
              · have h := h.2 hc31
                refine Go.condF (btF rfl hc31) ?_
                refine Go.exit rfl ?_
                refine Go.seq ?_
                refine Go.region rfl ?_
                refine GoOps.q (v := Sl.v Sl.nil) rfl rfl (by decide) (q_assign rfl) ?_
                refine GoOps.nil ?_
                refine Go.seq ?_
                refine Go.seq ?_
                refine Go.region rfl ?_
                refine GoOps.q (v := .int .i64 0) rfl rfl (by decide) (q_assign rfl) ?_
                refine GoOps.nil ?_
                refine Go.block ?_
                refine loop_go (fun ρ (s50 : Sl × Int) => ρ 0 = .int .i64 p0 ∧ ρ 1 = .int .i64 p1 ∧ ρ 7 = .pointer y25 ∧ ρ 9 = Sl.v s50.1 ∧ ρ 10 = .int .i64 s50.2) h ⟨e29_0, e29_1, e29_7, rfl, rfl⟩ ?_
                clear h
                intro ρ s50 H53 again51 hE h hagain51
                obtain ⟨e52_0, e52_1, e52_7, e52_9, e52_10⟩ := hE
                refine Go.seq ?_
                refine Go.seq ?_
                refine Go.region rfl ?_
                refine GoOps.q (v := .int .i64 s50.2) rfl rfl (by decide) (q_move e52_10) ?_
                refine GoOps.q (v := .pointer y25) rfl rfl (by decide) (q_move e52_7) ?_
                refine call_dst rfl (by decide) body20 (paged_Paged_int_Pages_s _ _ _ h) rfl ?_
                rintro _ H54 ⟨y55, rfl, h⟩
                refine GoOps.q (v := .bool (decide (s50.2 < y55))) rfl rfl (by decide) (q_lss rfl rfl) ?_
                refine GoOps.nil ?_
                rcases bor (decide (s50.2 < y55)) with hc56 | hc56
                · have h := h.1 hc56
                  refine Go.condT (btT rfl hc56) ?_
                  refine Go.skip ?_
                  refine Go.seq ?_
                  refine Go.block ?_
                  refine Go.seq ?_
                  refine Go.region rfl ?_
                  refine GoOps.q (v := .pointer y25) rfl rfl (by decide) (q_move e52_7) ?_
                  refine GoOps.q (v := .int .i64 s50.2) rfl rfl (by decide) (q_move e52_10) ?_
                  refine call_dst rfl (by decide) body21 (paged_Paged_int_Page_s _ _ _ _ h) rfl ?_
                  rintro _ H57 ⟨y58, rfl, h⟩
                  refine GoOps.q (v := Sl.v y58) rfl rfl (by decide) (q_assign rfl) ?_
                  refine GoOps.nil ?_
                  refine Go.seq ?_
                  refine Go.seq ?_
                  refine Go.region rfl ?_
                  refine GoOps.q (v := Sl.v y58) rfl rfl (by decide) (q_move rfl) ?_
                  refine GoOps.q (v := .int .i64 (y58.len : Int)) rfl rfl (by decide) (q_len Try.underlying31 rfl (ls1 rfl)) ?_
                  refine GoOps.q (v := .bool (decide ((y58.len : Int) < 1))) rfl rfl (by decide) (q_lss rfl rfl) ?_
                  refine GoOps.q (v := .bool (decide ((y58.len : Int) < 1))) rfl rfl (by decide) (q_move rfl) ?_
                  refine join_ops 5 (fun ρ (s60 : Bool) => ρ 0 = .int .i64 p0 ∧ ρ 1 = .int .i64 p1 ∧ ρ 7 = .pointer y25 ∧ ρ 9 = Sl.v s50.1 ∧ ρ 10 = .int .i64 s50.2 ∧ ρ 11 = Sl.v y58 ∧ ρ 78 = .bool s60) h ?_ ?_ <;> clear h
                  · intro s60 H62 ρ h hE
                    obtain ⟨e63_0, e63_1, e63_7, e63_9, e63_10, e63_11, e63_78⟩ := hE
                    refine GoOps.q (v := .bool s60) rfl rfl (by decide) (q_move e63_78) ?_
                    refine join_ops 12 (fun ρ (s65 : Bool) => ρ 0 = .int .i64 p0 ∧ ρ 1 = .int .i64 p1 ∧ ρ 7 = .pointer y25 ∧ ρ 9 = Sl.v s50.1 ∧ ρ 10 = .int .i64 s50.2 ∧ ρ 11 = Sl.v y58 ∧ ρ 91 = .bool s65) h ?_ ?_ <;> clear h
                    · intro s65 H67 ρ h hE
                      obtain ⟨e68_0, e68_1, e68_7, e68_9, e68_10, e68_11, e68_91⟩ := hE
                      refine GoOps.nil ?_
                      rcases bor s65 with hc69 | hc69
                      · have h := h.1 hc69
                        refine Go.condT (btT e68_91 hc69) ?_
                        refine Go.seq ?_
                        refine Go.region rfl ?_
                        refine GoOps.q (v := .bool false) rfl rfl (by decide) (q_assign rfl) ?_
                        refine GoOps.nil ?_
                        exact Go.ret ⟨.inl rfl, _, _, DOk.nil, (resOk1 Try.results5 rfl), ⟨_, rfl, h⟩⟩
                      · have h := h.2 hc69
                        refine Go.condF (btF e68_91 hc69) ?_
                        refine Go.skip ?_
                        refine Go.seq ?_
                        refine Go.region rfl ?_
                        refine GoOps.q (v := Sl.v s50.1) rfl rfl (by decide) (q_move e68_9) ?_
                        refine GoOps.q (v := Sl.v y58) rfl rfl (by decide) (q_move e68_11) ?_
                        refine op_dst rfl rfl (by decide) (do_append (zs := [.int .i64 0]) slice31 bytes3 (by decide) zero3 rfl rfl (by decide) rfl rfl Try.underlying31 rfl h fun r70 H71 h => ?_) 
                        refine GoOps.q (v := Sl.v r70) rfl rfl (by decide) (q_assign rfl) ?_
                        refine GoOps.nil ?_
                        refine Go.seq ?_
                        refine Go.region rfl ?_
                        refine GoOps.q (v := .int .i64 0) rfl rfl (by decide) (q_assign rfl) ?_
                        refine GoOps.nil ?_
                        refine Go.block ?_
                        refine loop_go (fun ρ (s72 : Int) => ρ 0 = .int .i64 p0 ∧ ρ 1 = .int .i64 p1 ∧ ρ 7 = .pointer y25 ∧ ρ 9 = Sl.v r70 ∧ ρ 10 = .int .i64 s50.2 ∧ ρ 11 = Sl.v y58 ∧ ρ 12 = .int .i64 s72) h ⟨e68_0, e68_1, e68_7, rfl, e68_10, e68_11, rfl⟩ ?_
                        clear h
                        intro ρ s72 H75 again73 hE h hagain73
                        obtain ⟨e74_0, e74_1, e74_7, e74_9, e74_10, e74_11, e74_12⟩ := hE
                        refine Go.seq ?_
                        refine Go.seq ?_
                        refine Go.region rfl ?_
                        refine GoOps.q (v := .int .i64 s72) rfl rfl (by decide) (q_move e74_12) ?_
                        refine GoOps.q (v := Sl.v y58) rfl rfl (by decide) (q_move e74_11) ?_
                        refine GoOps.q (v := .int .i64 (y58.len : Int)) rfl rfl (by decide) (q_len Try.underlying31 rfl (ls1 rfl)) ?_
                        refine GoOps.q (v := .bool (decide (s72 < (y58.len : Int)))) rfl rfl (by decide) (q_lss rfl rfl) ?_
                        refine GoOps.nil ?_
                        rcases bor (decide (s72 < (y58.len : Int))) with hc76 | hc76
                        · have h := h.1 hc76
                          refine Go.condT (btT rfl hc76) ?_
                          refine Go.skip ?_
                          refine Go.seq ?_
                          refine Go.block ?_
                          refine Go.region rfl ?_
                          refine GoOps.q (v := Sl.v y58) rfl rfl (by decide) (q_move e74_11) ?_
                          refine GoOps.q (v := .int .i64 s72) rfl rfl (by decide) (q_move e74_12) ?_
                          obtain ⟨a77, ha78, h⟩ := h
                          refine GoOps.q (v := .pointer (some a77)) rfl rfl (by decide) (q_idx slice31 ha78 rfl rfl) ?_
                          obtain ⟨x79, hx80, h⟩ := h
                          refine GoOps.q (v := .int .i64 x79) rfl rfl (by decide) (q_load scalar3 rfl hx80) ?_
                          refine GoOps.q (v := .int .i64 (IntKind.wrap .i64 (x79 + 1))) rfl rfl (by decide) (q_add rfl rfl) ?_
                          obtain ⟨a81, ha82, h⟩ := h
                          refine GoOps.q (v := .pointer (some a81)) rfl rfl (by decide) (q_idx slice31 ha82 rfl rfl) ?_
                          obtain ⟨q84b, q84o, q84c, q84e, hq84a, hq84b, hq84l, hq84v, h⟩ := h
                          refine op_none rfl rfl (do_store (vs := [.int .i64 (IntKind.wrap .i64 (x79 + 1))]) size3 (pta rfl hq84a) rfl rfl rfl hq84v hq84b hq84l ?_) 
                          refine GoOps.nil ?_
                          refine Go.inBlock ?_
                          refine Go.region rfl ?_
                          refine GoOps.q (v := .int .i64 s72) rfl rfl (by decide) (q_move e74_12) ?_
                          refine GoOps.q (v := .int .i64 (IntKind.wrap .i64 (s72 + 1))) rfl rfl (by decide) (q_add rfl rfl) ?_
                          refine GoOps.q (v := .int .i64 (IntKind.wrap .i64 (s72 + 1))) rfl rfl (by decide) (q_assign rfl) ?_
                          refine GoOps.nil ?_
                          exact hagain73 _ _ _ h ⟨e74_0, e74_1, e74_7, e74_9, e74_10, e74_11, rfl⟩
                        · have h := h.2 hc76
                          refine Go.condF (btF rfl hc76) ?_
                          refine Go.exit rfl ?_
                          refine Go.inBlock ?_
                          refine Go.region rfl ?_
                          refine GoOps.q (v := .int .i64 s50.2) rfl rfl (by decide) (q_move e74_10) ?_
                          refine GoOps.q (v := .int .i64 (IntKind.wrap .i64 (s50.2 + 1))) rfl rfl (by decide) (q_add rfl rfl) ?_
                          refine GoOps.q (v := .int .i64 (IntKind.wrap .i64 (s50.2 + 1))) rfl rfl (by decide) (q_assign rfl) ?_
                          refine GoOps.nil ?_
                          exact hagain51 _ _ _ h ⟨e74_0, e74_1, e74_7, e74_9, rfl⟩
                    · intro j66 hj66 h
                      rcases bor s60 with hc64 | hc64
                      · have h := h.1 hc64
                        refine no_dst (want_no rfl rfl rfl hc64) rfl (by decide) ?_
                        refine no_dst (want_no rfl rfl rfl hc64) rfl (by decide) ?_
                        refine no_dst (want_no rfl rfl rfl hc64) rfl (by decide) ?_
                        refine no_dst (want_no rfl rfl rfl hc64) rfl (by decide) ?_
                        refine no_dst (want_no rfl rfl rfl hc64) rfl (by decide) ?_
                        refine no_dst (want_no rfl rfl rfl hc64) rfl (by decide) ?_
                        refine no_dst (want_undef rfl rfl rfl) rfl (by decide) ?_
                        refine no_dst (want_undef rfl rfl rfl) rfl (by decide) ?_
                        refine no_dst (want_undef rfl rfl rfl) rfl (by decide) ?_
                        refine no_dst (want_undef rfl rfl rfl) rfl (by decide) ?_
                        refine no_dst (want_no rfl rfl rfl hc64) rfl (by decide) ?_
                        refine GoOps.q (v := .bool true) rfl rfl (by decide) (q_pickT (btT rfl hc64) rfl) ?_
                        exact hj66 true _ _ h (by exact ⟨e63_0, e63_1, e63_7, e63_9, e63_10, e63_11, rfl⟩)
                      · have h := h.2 hc64
                        refine GoOps.q (v := .int .i64 s50.2) (want_yes rfl rfl rfl hc64) rfl (by decide) (q_move e63_10) ?_
                        refine GoOps.q (v := .pointer y25) (want_yes rfl rfl rfl hc64) rfl (by decide) (q_move e63_7) ?_
                        refine call_dst (want_yes rfl rfl rfl hc64) (by decide) body20 (paged_Paged_int_Pages_s _ _ _ h) rfl ?_
                        rintro _ H85 ⟨y86, rfl, h⟩
                        refine GoOps.q (v := .int .i64 (IntKind.wrap .i64 (y86 - 1))) (want_yes rfl rfl rfl hc64) rfl (by decide) (q_sub rfl rfl) ?_
                        refine GoOps.q (v := .bool (decide (s50.2 < (IntKind.wrap .i64 (y86 - 1))))) (want_yes rfl rfl rfl hc64) rfl (by decide) (q_lss rfl rfl) ?_
                        refine GoOps.q (v := .bool (decide (s50.2 < (IntKind.wrap .i64 (y86 - 1))))) (want_yes rfl rfl rfl hc64) rfl (by decide) (q_move rfl) ?_
                        refine join_ops 5 (fun ρ (s88 : Bool) => ρ 0 = .int .i64 p0 ∧ ρ 1 = .int .i64 p1 ∧ ρ 7 = .pointer y25 ∧ ρ 9 = Sl.v s50.1 ∧ ρ 10 = .int .i64 s50.2 ∧ ρ 11 = Sl.v y58 ∧ ρ 79 = .bool s60 ∧ ρ 90 = .bool s88) h ?_ ?_ <;> clear h
                        · intro s88 H90 ρ h hE
                          obtain ⟨e91_0, e91_1, e91_7, e91_9, e91_10, e91_11, e91_79, e91_90⟩ := hE
                          refine GoOps.q (v := .bool s88) rfl rfl (by decide) (q_pickF (btF e91_79 hc64) e91_90) ?_
                          exact hj66 s88 _ _ h (by exact ⟨e91_0, e91_1, e91_7, e91_9, e91_10, e91_11, rfl⟩)
                        · intro j89 hj89 h
                          rcases bor (decide (s50.2 < (IntKind.wrap .i64 (y86 - 1)))) with hc87 | hc87
                          · have h := h.1 hc87
                            refine GoOps.q (v := Sl.v y58) (want_yes rfl rfl rfl hc87) rfl (by decide) (q_move e63_11) ?_
                            refine GoOps.q (v := .int .i64 (y58.len : Int)) (want_yes rfl rfl rfl hc87) rfl (by decide) (q_len Try.underlying31 rfl (ls1 rfl)) ?_
                            refine GoOps.q (v := .int .i64 p1) (want_yes rfl rfl rfl hc87) rfl (by decide) (q_move e63_1) ?_
                            refine GoOps.q (v := .bool ((y58.len : Int) != p1)) (want_yes rfl rfl rfl hc87) rfl (by decide) (q_neq rfl rfl) ?_
                            refine GoOps.q (v := .bool ((y58.len : Int) != p1)) (want_yes rfl rfl rfl hc64) rfl (by decide) (q_pickT (btT rfl hc87) rfl) ?_
                            exact hj89 ((y58.len : Int) != p1) _ _ h (by exact ⟨e63_0, e63_1, e63_7, e63_9, e63_10, e63_11, rfl, rfl⟩)
                          · have h := h.2 hc87
                            refine no_dst (want_no rfl rfl rfl hc87) rfl (by decide) ?_
                            refine no_dst (want_no rfl rfl rfl hc87) rfl (by decide) ?_
                            refine no_dst (want_no rfl rfl rfl hc87) rfl (by decide) ?_
                            refine no_dst (want_no rfl rfl rfl hc87) rfl (by decide) ?_
                            refine GoOps.q (v := .bool false) (want_yes rfl rfl rfl hc64) rfl (by decide) (q_pickF (btF rfl hc87) rfl) ?_
                            exact hj89 false _ _ h (by exact ⟨e63_0, e63_1, e63_7, e63_9, e63_10, e63_11, rfl, rfl⟩)
                  · intro j61 hj61 h
                    rcases bor (decide ((y58.len : Int) < 1)) with hc59 | hc59
                    · have h := h.1 hc59
                      refine no_dst (want_no rfl rfl rfl hc59) rfl (by decide) ?_
                      refine no_dst (want_no rfl rfl rfl hc59) rfl (by decide) ?_
                      refine no_dst (want_no rfl rfl rfl hc59) rfl (by decide) ?_
                      refine no_dst (want_no rfl rfl rfl hc59) rfl (by decide) ?_
                      refine GoOps.q (v := .bool true) rfl rfl (by decide) (q_pickT (btT rfl hc59) rfl) ?_
                      exact hj61 true _ _ h (by exact ⟨e52_0, e52_1, e52_7, e52_9, e52_10, rfl, rfl⟩)
                    · have h := h.2 hc59
                      refine GoOps.q (v := Sl.v y58) (want_yes rfl rfl rfl hc59) rfl (by decide) (q_move rfl) ?_
                      refine GoOps.q (v := .int .i64 (y58.len : Int)) (want_yes rfl rfl rfl hc59) rfl (by decide) (q_len Try.underlying31 rfl (ls1 rfl)) ?_
                      refine GoOps.q (v := .int .i64 p1) (want_yes rfl rfl rfl hc59) rfl (by decide) (q_move e52_1) ?_
                      refine GoOps.q (v := .bool (decide (p1 < (y58.len : Int)))) (want_yes rfl rfl rfl hc59) rfl (by decide) (q_gtr rfl rfl) ?_
                      refine GoOps.q (v := .bool (decide (p1 < (y58.len : Int)))) rfl rfl (by decide) (q_pickF (btF rfl hc59) rfl) ?_
                      exact hj61 (decide (p1 < (y58.len : Int))) _ _ h (by exact ⟨e52_0, e52_1, e52_7, e52_9, e52_10, rfl, rfl⟩)
                · have h := h.2 hc56
                  refine Go.condF (btF rfl hc56) ?_
                  refine Go.exit rfl ?_
                  refine Go.seq ?_
                  refine Go.region rfl ?_
                  refine GoOps.q (v := .pointer y25) rfl rfl (by decide) (q_move e52_7) ?_
                  refine call_dst rfl (by decide) body22 (keelsonlaw11_all_s _ _ _ h) rfl ?_
                  rintro _ H92 ⟨y93, y94, rfl, h⟩
                  refine GoOps.q (v := .tuple #[Sl.v y93, .bool y94]) rfl rfl (by decide) (q_move rfl) ?_
                  refine GoOps.q (v := Sl.v y93) rfl rfl (by decide) (q_extract rfl rfl) ?_
                  refine GoOps.q (v := .bool y94) rfl rfl (by decide) (q_extract rfl rfl) ?_
                  refine GoOps.q (v := Sl.v y93) rfl rfl (by decide) (q_assign rfl) ?_
                  refine GoOps.q (v := .bool y94) rfl rfl (by decide) (q_assign rfl) ?_
                  refine GoOps.nil ?_
                  refine Go.seq ?_
                  refine Go.region rfl ?_
                  refine GoOps.q (v := .bool y94) rfl rfl (by decide) (q_move rfl) ?_
                  refine GoOps.q (v := .bool y94) rfl rfl (by decide) (q_move rfl) ?_
                  refine join_ops 5 (fun ρ (s96 : Bool) => ρ 7 = .pointer y25 ∧ ρ 9 = Sl.v s50.1 ∧ ρ 13 = Sl.v y93 ∧ ρ 118 = .bool s96) h ?_ ?_ <;> clear h
                  · intro s96 H98 ρ h hE
                    obtain ⟨e99_7, e99_9, e99_13, e99_118⟩ := hE
                    refine GoOps.q (v := .bool s96) rfl rfl (by decide) (q_move e99_118) ?_
                    refine join_ops 4 (fun ρ (s101 : Bool) => ρ 7 = .pointer y25 ∧ ρ 123 = .bool s101) h ?_ ?_ <;> clear h
                    · intro s101 H103 ρ h hE
                      obtain ⟨e104_7, e104_123⟩ := hE
                      refine GoOps.q (v := .bool s101) rfl rfl (by decide) (q_move e104_123) ?_
                      refine join_ops 7 (fun ρ (s106 : Bool) => ρ 7 = .pointer y25 ∧ ρ 131 = .bool s106) h ?_ ?_ <;> clear h
                      · intro s106 H108 ρ h hE
                        obtain ⟨e109_7, e109_131⟩ := hE
                        refine GoOps.q (v := .bool s106) rfl rfl (by decide) (q_move e109_131) ?_
                        refine join_ops 5 (fun ρ (s111 : Bool) => ρ 137 = .bool s111) h ?_ ?_ <;> clear h
                        · intro s111 H113 ρ h hE
                          have e114_137 := hE
                          refine GoOps.q (v := .bool s111) rfl rfl (by decide) (q_move e114_137) ?_
                          refine join_ops 2 (fun ρ (s116 : Bool) => ρ 140 = .bool s116) h ?_ ?_ <;> clear h
                          · intro s116 H118 ρ h hE
                            have e119_140 := hE
                            refine GoOps.q (v := .bool s116) rfl rfl (by decide) (q_assign e119_140) ?_
                            refine GoOps.nil ?_
                            exact Go.ret ⟨.inl rfl, _, _, DOk.nil, (resOk1 Try.results5 rfl), ⟨_, rfl, h⟩⟩
                          · intro j117 hj117 h
                            rcases bor s111 with hc115 | hc115
                            · have h := h.1 hc115
                              refine call_dst (want_yes rfl rfl rfl hc115) (by decide) body7 (keelsonlaw11_awake_s _ _ h) rfl ?_
                              rintro _ H120 ⟨y121, rfl, h⟩
                              refine GoOps.q (v := .bool y121) rfl rfl (by decide) (q_pickT (btT rfl hc115) rfl) ?_
                              exact hj117 y121 _ _ h (by exact rfl)
                            · have h := h.2 hc115
                              refine no_dst (want_no rfl rfl rfl hc115) rfl (by decide) ?_
                              refine GoOps.q (v := .bool false) rfl rfl (by decide) (q_pickF (btF rfl hc115) rfl) ?_
                              exact hj117 false _ _ h (by exact rfl)
                        · intro j112 hj112 h
                          rcases bor s106 with hc110 | hc110
                          · have h := h.1 hc110
                            refine GoOps.q (v := .pointer y25) (want_yes rfl rfl rfl hc110) rfl (by decide) (q_move e109_7) ?_
                            refine call_dst (want_yes rfl rfl rfl hc110) (by decide) body21 (paged_Paged_int_Page_s _ _ _ _ h) rfl ?_
                            rintro _ H122 ⟨y123, rfl, h⟩
                            refine GoOps.q (v := .int .i64 (y123.len : Int)) (want_yes rfl rfl rfl hc110) rfl (by decide) (q_len Try.underlying31 rfl (ls1 rfl)) ?_
                            refine GoOps.q (v := .bool ((y123.len : Int) == 0)) (want_yes rfl rfl rfl hc110) rfl (by decide) (q_eql rfl rfl) ?_
                            refine GoOps.q (v := .bool ((y123.len : Int) == 0)) rfl rfl (by decide) (q_pickT (btT rfl hc110) rfl) ?_
                            exact hj112 ((y123.len : Int) == 0) _ _ h (by exact rfl)
                          · have h := h.2 hc110
                            refine no_dst (want_no rfl rfl rfl hc110) rfl (by decide) ?_
                            refine no_dst (want_no rfl rfl rfl hc110) rfl (by decide) ?_
                            refine no_dst (want_no rfl rfl rfl hc110) rfl (by decide) ?_
                            refine no_dst (want_no rfl rfl rfl hc110) rfl (by decide) ?_
                            refine GoOps.q (v := .bool false) rfl rfl (by decide) (q_pickF (btF rfl hc110) rfl) ?_
                            exact hj112 false _ _ h (by exact rfl)
                      · intro j107 hj107 h
                        rcases bor s101 with hc105 | hc105
                        · have h := h.1 hc105
                          refine GoOps.q (v := .pointer y25) (want_yes rfl rfl rfl hc105) rfl (by decide) (q_move e104_7) ?_
                          refine GoOps.q (v := .pointer y25) (want_yes rfl rfl rfl hc105) rfl (by decide) (q_move e104_7) ?_
                          refine call_dst (want_yes rfl rfl rfl hc105) (by decide) body20 (paged_Paged_int_Pages_s _ _ _ h) rfl ?_
                          rintro _ H124 ⟨y125, rfl, h⟩
                          refine call_dst (want_yes rfl rfl rfl hc105) (by decide) body21 (paged_Paged_int_Page_s _ _ _ _ h) rfl ?_
                          rintro _ H126 ⟨y127, rfl, h⟩
                          refine GoOps.q (v := .int .i64 (y127.len : Int)) (want_yes rfl rfl rfl hc105) rfl (by decide) (q_len Try.underlying31 rfl (ls1 rfl)) ?_
                          refine GoOps.q (v := .bool ((y127.len : Int) == 0)) (want_yes rfl rfl rfl hc105) rfl (by decide) (q_eql rfl rfl) ?_
                          refine GoOps.q (v := .bool ((y127.len : Int) == 0)) rfl rfl (by decide) (q_pickT (btT rfl hc105) rfl) ?_
                          exact hj107 ((y127.len : Int) == 0) _ _ h (by exact ⟨e104_7, rfl⟩)
                        · have h := h.2 hc105
                          refine no_dst (want_no rfl rfl rfl hc105) rfl (by decide) ?_
                          refine no_dst (want_no rfl rfl rfl hc105) rfl (by decide) ?_
                          refine no_dst (want_no rfl rfl rfl hc105) rfl (by decide) ?_
                          refine no_dst (want_no rfl rfl rfl hc105) rfl (by decide) ?_
                          refine no_dst (want_no rfl rfl rfl hc105) rfl (by decide) ?_
                          refine no_dst (want_no rfl rfl rfl hc105) rfl (by decide) ?_
                          refine GoOps.q (v := .bool false) rfl rfl (by decide) (q_pickF (btF rfl hc105) rfl) ?_
                          exact hj107 false _ _ h (by exact ⟨e104_7, rfl⟩)
                    · intro j102 hj102 h
                      rcases bor s96 with hc100 | hc100
                      · have h := h.1 hc100
                        refine GoOps.q (v := Sl.v s50.1) (want_yes rfl rfl rfl hc100) rfl (by decide) (q_move e99_9) ?_
                        refine GoOps.q (v := Sl.v y93) (want_yes rfl rfl rfl hc100) rfl (by decide) (q_move e99_13) ?_
                        refine call_dst (want_yes rfl rfl rfl hc100) (by decide) body12 (keelsonalike_Ints_s _ _ _ _ h) rfl ?_
                        rintro _ H128 ⟨y129, rfl, h⟩
                        refine GoOps.q (v := .bool y129) rfl rfl (by decide) (q_pickT (btT rfl hc100) rfl) ?_
                        exact hj102 y129 _ _ h (by exact ⟨e99_7, rfl⟩)
                      · have h := h.2 hc100
                        refine no_dst (want_no rfl rfl rfl hc100) rfl (by decide) ?_
                        refine no_dst (want_no rfl rfl rfl hc100) rfl (by decide) ?_
                        refine no_dst (want_no rfl rfl rfl hc100) rfl (by decide) ?_
                        refine GoOps.q (v := .bool false) rfl rfl (by decide) (q_pickF (btF rfl hc100) rfl) ?_
                        exact hj102 false _ _ h (by exact ⟨e99_7, rfl⟩)
                  · intro j97 hj97 h
                    rcases bor y94 with hc95 | hc95
                    · have h := h.1 hc95
                      refine GoOps.q (v := Sl.v s50.1) (want_yes rfl rfl rfl hc95) rfl (by decide) (q_move e52_9) ?_
                      refine GoOps.q (v := .int .i64 (s50.1.len : Int)) (want_yes rfl rfl rfl hc95) rfl (by decide) (q_len Try.underlying31 rfl (ls1 rfl)) ?_
                      refine GoOps.q (v := .int .i64 p0) (want_yes rfl rfl rfl hc95) rfl (by decide) (q_move e52_0) ?_
                      refine GoOps.q (v := .bool ((s50.1.len : Int) == p0)) (want_yes rfl rfl rfl hc95) rfl (by decide) (q_eql rfl rfl) ?_
                      refine GoOps.q (v := .bool ((s50.1.len : Int) == p0)) rfl rfl (by decide) (q_pickT (btT rfl hc95) rfl) ?_
                      exact hj97 ((s50.1.len : Int) == p0) _ _ h (by exact ⟨e52_7, e52_9, rfl, rfl⟩)
                    · have h := h.2 hc95
                      refine no_dst (want_no rfl rfl rfl hc95) rfl (by decide) ?_
                      refine no_dst (want_no rfl rfl rfl hc95) rfl (by decide) ?_
                      refine no_dst (want_no rfl rfl rfl hc95) rfl (by decide) ?_
                      refine no_dst (want_no rfl rfl rfl hc95) rfl (by decide) ?_
                      refine GoOps.q (v := .bool false) rfl rfl (by decide) (q_pickF (btF rfl hc95) rfl) ?_
                      exact hj97 false _ _ h (by exact ⟨e52_7, e52_9, rfl, rfl⟩)
        · intro j18 hj18 h
          rcases bor s12 with hc16 | hc16
          · have h := h.1 hc16
            refine no_dst (want_no rfl rfl rfl hc16) rfl (by decide) ?_
            refine no_dst (want_no rfl rfl rfl hc16) rfl (by decide) ?_
            refine no_dst (want_no rfl rfl rfl hc16) rfl (by decide) ?_
            refine GoOps.q (v := .bool true) rfl rfl (by decide) (q_pickT (btT rfl hc16) rfl) ?_
            exact hj18 true _ _ h (by exact ⟨e15_0, e15_1, e15_2, rfl⟩)
          · have h := h.2 hc16
            refine GoOps.q (v := Sl.v p2) (want_yes rfl rfl rfl hc16) rfl (by decide) (q_move e15_2) ?_
            refine GoOps.q (v := .int .i64 (p2.len : Int)) (want_yes rfl rfl rfl hc16) rfl (by decide) (q_len Try.underlying22 rfl (ls1 rfl)) ?_
            refine GoOps.q (v := .bool (decide (50 < (p2.len : Int)))) (want_yes rfl rfl rfl hc16) rfl (by decide) (q_gtr rfl rfl) ?_
            refine GoOps.q (v := .bool (decide (50 < (p2.len : Int)))) rfl rfl (by decide) (q_pickF (btF rfl hc16) rfl) ?_
            exact hj18 (decide (50 < (p2.len : Int))) _ _ h (by exact ⟨e15_0, e15_1, e15_2, rfl⟩)
      · intro j13 hj13 h
        rcases bor s7 with hc11 | hc11
        · have h := h.1 hc11
          refine no_dst (want_no rfl rfl rfl hc11) rfl (by decide) ?_
          refine no_dst (want_no rfl rfl rfl hc11) rfl (by decide) ?_
          refine GoOps.q (v := .bool true) rfl rfl (by decide) (q_pickT (btT rfl hc11) rfl) ?_
          exact hj13 true _ _ h (by exact ⟨e10_0, e10_1, e10_2, rfl⟩)
        · have h := h.2 hc11
          refine GoOps.q (v := .int .i64 p1) (want_yes rfl rfl rfl hc11) rfl (by decide) (q_move e10_1) ?_
          refine GoOps.q (v := .bool (decide (300 < p1))) (want_yes rfl rfl rfl hc11) rfl (by decide) (q_gtr rfl rfl) ?_
          refine GoOps.q (v := .bool (decide (300 < p1))) rfl rfl (by decide) (q_pickF (btF rfl hc11) rfl) ?_
          exact hj13 (decide (300 < p1)) _ _ h (by exact ⟨e10_0, e10_1, e10_2, rfl⟩)
    · intro j8 hj8 h
      rcases bor s2 with hc6 | hc6
      · have h := h.1 hc6
        refine no_dst (want_no rfl rfl rfl hc6) rfl (by decide) ?_
        refine no_dst (want_no rfl rfl rfl hc6) rfl (by decide) ?_
        refine GoOps.q (v := .bool true) rfl rfl (by decide) (q_pickT (btT rfl hc6) rfl) ?_
        exact hj8 true _ _ h (by exact ⟨e5_0, e5_1, e5_2, rfl⟩)
      · have h := h.2 hc6
        refine GoOps.q (v := .int .i64 p1) (want_yes rfl rfl rfl hc6) rfl (by decide) (q_move e5_1) ?_
        refine GoOps.q (v := .bool (decide (p1 < 1))) (want_yes rfl rfl rfl hc6) rfl (by decide) (q_lss rfl rfl) ?_
        refine GoOps.q (v := .bool (decide (p1 < 1))) rfl rfl (by decide) (q_pickF (btF rfl hc6) rfl) ?_
        exact hj8 (decide (p1 < 1)) _ _ h (by exact ⟨e5_0, e5_1, e5_2, rfl⟩)
  · intro j3 hj3 h
    rcases bor (decide (p0 < 1)) with hc1 | hc1
    · have h := h.1 hc1
      refine no_dst (want_no rfl rfl rfl hc1) rfl (by decide) ?_
      refine no_dst (want_no rfl rfl rfl hc1) rfl (by decide) ?_
      refine GoOps.q (v := .bool true) rfl rfl (by decide) (q_pickT (btT rfl hc1) rfl) ?_
      exact hj3 true _ _ h (by exact ⟨rfl, rfl, rfl, rfl⟩)
    · have h := h.2 hc1
      refine GoOps.q (v := .int .i64 p0) (want_yes rfl rfl rfl hc1) rfl (by decide) (q_move rfl) ?_
      refine GoOps.q (v := .bool (decide (200 < p0))) (want_yes rfl rfl rfl hc1) rfl (by decide) (q_gtr rfl rfl) ?_
      refine GoOps.q (v := .bool (decide (200 < p0))) rfl rfl (by decide) (q_pickF (btF rfl hc1) rfl) ?_
      exact hj3 (decide (200 < p0)) _ _ h (by exact ⟨rfl, rfl, rfl, rfl⟩)

/-- keelson.keelsonref1.Within -/
def keelsonref1_Within (p0 : Int) (p1 : Int) (p2 : Int) (H : PH) (Q : Bool → PH → Prop) : Prop :=
  mJoin (fun (s2 : Bool) (H4 : PH) =>
  Q s2 H4)
  fun j3 =>
  mIf (decide (p1 ≤ p0))
  (j3 (decide (p0 ≤ p2)) H)
  (j3 false H)

set_option maxRecDepth 20000 in
set_option maxHeartbeats 1000000 in
theorem keelsonref1_Within_s (p0 : Int) (p1 : Int) (p2 : Int) (H : PH) (Q : Bool → PH → Prop) (h : keelsonref1_Within p0 p1 p2 H Q) :
    CallsH Try.prog 23 #[.int .i64 p0, .int .i64 p1, .int .i64 p2] H (fun v H' => ∃ (r0 : Bool), v = .bool r0 ∧ Q r0 H') := by
  unfold keelsonref1_Within at h
  refine callsH_of_go Try.func23 rfl Try.ntmps23 (Nat.le_of_ble_eq_true rfl) ?_
  refine Go.seq ?_
  refine Go.region rfl ?_
  refine GoOps.q (v := .bool false) rfl rfl (by decide) (q_assign rfl) ?_
  refine GoOps.nil ?_
  refine Go.seq ?_
  refine Go.region rfl ?_
  refine GoOps.q (v := .int .i64 p0) rfl rfl (by decide) (q_move rfl) ?_
  refine GoOps.q (v := .int .i64 p1) rfl rfl (by decide) (q_move rfl) ?_
  refine GoOps.q (v := .bool (decide (p1 ≤ p0))) rfl rfl (by decide) (q_geq rfl rfl) ?_
  refine GoOps.q (v := .bool (decide (p1 ≤ p0))) rfl rfl (by decide) (q_move rfl) ?_
  refine join_ops 4 (fun ρ (s2 : Bool) => ρ 14 = .bool s2) h ?_ ?_ <;> clear h
  · intro s2 H4 ρ h hE
    have e5_14 := hE
    refine GoOps.q (v := .bool s2) rfl rfl (by decide) (q_assign e5_14) ?_
    refine GoOps.nil ?_
    exact Go.ret ⟨.inl rfl, _, _, DOk.nil, (resOk1 Try.results23 rfl), ⟨_, rfl, h⟩⟩
  · intro j3 hj3 h
    rcases bor (decide (p1 ≤ p0)) with hc1 | hc1
    · have h := h.1 hc1
      refine GoOps.q (v := .int .i64 p0) (want_yes rfl rfl rfl hc1) rfl (by decide) (q_move rfl) ?_
      refine GoOps.q (v := .int .i64 p2) (want_yes rfl rfl rfl hc1) rfl (by decide) (q_move rfl) ?_
      refine GoOps.q (v := .bool (decide (p0 ≤ p2))) (want_yes rfl rfl rfl hc1) rfl (by decide) (q_leq rfl rfl) ?_
      refine GoOps.q (v := .bool (decide (p0 ≤ p2))) rfl rfl (by decide) (q_pickT (btT rfl hc1) rfl) ?_
      exact hj3 (decide (p0 ≤ p2)) _ _ h (by exact rfl)
    · have h := h.2 hc1
      refine no_dst (want_no rfl rfl rfl hc1) rfl (by decide) ?_
      refine no_dst (want_no rfl rfl rfl hc1) rfl (by decide) ?_
      refine no_dst (want_no rfl rfl rfl hc1) rfl (by decide) ?_
      refine GoOps.q (v := .bool false) rfl rfl (by decide) (q_pickF (btF rfl hc1) rfl) ?_
      exact hj3 false _ _ h (by exact rfl)

/-- keelson.keelsonref1.Up -/
def keelsonref1_Up (p0 : Int) (p1 : Int) (H : PH) (Q : Int → PH → Prop) : Prop :=
  mNe p1 <|
  Q (IntKind.wrap .i64 (Int.tdiv (IntKind.wrap .i64 ((IntKind.wrap .i64 (p0 + p1)) - 1)) p1)) H

set_option maxRecDepth 20000 in
set_option maxHeartbeats 1000000 in
theorem keelsonref1_Up_s (p0 : Int) (p1 : Int) (H : PH) (Q : Int → PH → Prop) (h : keelsonref1_Up p0 p1 H Q) :
    CallsH Try.prog 25 #[.int .i64 p0, .int .i64 p1] H (fun v H' => ∃ (r0 : Int), v = .int .i64 r0 ∧ Q r0 H') := by
  unfold keelsonref1_Up at h
  refine callsH_of_go Try.func25 rfl Try.ntmps25 (Nat.le_of_ble_eq_true rfl) ?_
  refine Go.seq ?_
  refine Go.region rfl ?_
  refine GoOps.q (v := .int .i64 0) rfl rfl (by decide) (q_assign rfl) ?_
  refine GoOps.nil ?_
  refine Go.seq ?_
  refine Go.region rfl ?_
  refine GoOps.q (v := .int .i64 p0) rfl rfl (by decide) (q_move rfl) ?_
  refine GoOps.q (v := .int .i64 p1) rfl rfl (by decide) (q_move rfl) ?_
  refine GoOps.q (v := .int .i64 (IntKind.wrap .i64 (p0 + p1))) rfl rfl (by decide) (q_add rfl rfl) ?_
  refine GoOps.q (v := .int .i64 (IntKind.wrap .i64 ((IntKind.wrap .i64 (p0 + p1)) - 1))) rfl rfl (by decide) (q_sub rfl rfl) ?_
  refine GoOps.q (v := .int .i64 p1) rfl rfl (by decide) (q_move rfl) ?_
  obtain ⟨hn1, h⟩ := h
  refine GoOps.q (v := .int .i64 (IntKind.wrap .i64 (Int.tdiv (IntKind.wrap .i64 ((IntKind.wrap .i64 (p0 + p1)) - 1)) p1))) rfl rfl (by decide) (q_quo hn1 rfl rfl) ?_
  refine GoOps.q (v := .int .i64 (IntKind.wrap .i64 (Int.tdiv (IntKind.wrap .i64 ((IntKind.wrap .i64 (p0 + p1)) - 1)) p1))) rfl rfl (by decide) (q_assign rfl) ?_
  refine GoOps.nil ?_
  exact Go.ret ⟨.inl rfl, _, _, DOk.nil, (resOk1 Try.results25 rfl), ⟨_, rfl, h⟩⟩

/-- (*keelson.paged.Paged[int]).Load -/
def paged_Paged_int_Load (p0 : Option Addr) (p1 : Int) (p2 : Sl) (H : PH) (Q : Bool → PH → Prop) : Prop :=
  paged_Paged_int_at p0 p1 H fun y2 H1 =>
  mJoin (fun (s4 : Bool) (H6 : PH) =>
  mIf s4
  (Q false H6)
  (mCopy H6 1 y2 p2 fun x9 H10 =>
  mNil p0 fun a11 =>
  mLd Sl.v H10 (a11.add 2) fun x13 =>
  mIdx x13 1 p1 fun a15 =>
  mSt H10 a15 ([.bool false]) fun H17 =>
  Q true H17))
  fun j5 =>
  mIf ((y2.len : Int) == 0)
  (j5 true H1)
  (j5 ((p2.len : Int) != (y2.len : Int)) H1)

set_option maxRecDepth 20000 in
set_option maxHeartbeats 1000000 in
theorem paged_Paged_int_Load_s (p0 : Option Addr) (p1 : Int) (p2 : Sl) (H : PH) (Q : Bool → PH → Prop) (h : paged_Paged_int_Load p0 p1 p2 H Q) :
    CallsH Try.prog 26 #[.pointer p0, .int .i64 p1, Sl.v p2] H (fun v H' => ∃ (r0 : Bool), v = .bool r0 ∧ Q r0 H') := by
  unfold paged_Paged_int_Load at h
  refine callsH_of_go Try.func26 rfl Try.ntmps26 (Nat.le_of_ble_eq_true rfl) ?_
  refine Go.seq ?_
  refine Go.region rfl ?_
  refine GoOps.q (v := .bool false) rfl rfl (by decide) (q_assign rfl) ?_
  refine GoOps.nil ?_
  refine Go.seq ?_
  refine Go.region rfl ?_
  refine GoOps.q (v := .pointer p0) rfl rfl (by decide) (q_move rfl) ?_
  refine GoOps.q (v := .int .i64 p1) rfl rfl (by decide) (q_move rfl) ?_
  refine call_dst rfl (by decide) body35 (paged_Paged_int_at_s _ _ _ _ h) rfl ?_
  rintro _ H1 ⟨y2, rfl, h⟩
  refine GoOps.q (v := Sl.v y2) rfl rfl (by decide) (q_assign rfl) ?_
  refine GoOps.nil ?_
  refine Go.seq ?_
  refine Go.seq ?_
  refine Go.region rfl ?_
  refine GoOps.q (v := Sl.v y2) rfl rfl (by decide) (q_move rfl) ?_
  refine GoOps.q (v := .int .i64 (y2.len : Int)) rfl rfl (by decide) (q_len Try.underlying31 rfl (ls1 rfl)) ?_
  refine GoOps.q (v := .bool ((y2.len : Int) == 0)) rfl rfl (by decide) (q_eql rfl rfl) ?_
  refine GoOps.q (v := .bool ((y2.len : Int) == 0)) rfl rfl (by decide) (q_move rfl) ?_
  refine join_ops 6 (fun ρ (s4 : Bool) => ρ 0 = .pointer p0 ∧ ρ 1 = .int .i64 p1 ∧ ρ 2 = Sl.v p2 ∧ ρ 7 = Sl.v y2 ∧ ρ 20 = .bool s4) h ?_ ?_ <;> clear h
  · intro s4 H6 ρ h hE
    obtain ⟨e7_0, e7_1, e7_2, e7_7, e7_20⟩ := hE
    refine GoOps.nil ?_
    rcases bor s4 with hc8 | hc8
    · have h := h.1 hc8
      refine Go.condT (btT e7_20 hc8) ?_
      refine Go.seq ?_
      refine Go.region rfl ?_
      refine GoOps.q (v := .bool false) rfl rfl (by decide) (q_assign rfl) ?_
      refine GoOps.nil ?_
      exact Go.ret ⟨.inl rfl, _, _, DOk.nil, (resOk1 Try.results26 rfl), ⟨_, rfl, h⟩⟩
    · have h := h.2 hc8
      refine Go.condF (btF e7_20 hc8) ?_
      refine Go.skip ?_
      refine Go.seq ?_
      refine Go.region rfl ?_
      refine GoOps.q (v := Sl.v y2) rfl rfl (by decide) (q_move e7_7) ?_
      refine GoOps.q (v := Sl.v p2) rfl rfl (by decide) (q_move e7_2) ?_
      refine op_dst rfl rfl (by decide) (do_copy slice31 rfl rfl h fun x9 H10 h => ?_) 
      refine GoOps.nil ?_
      refine Go.seq ?_
      refine Go.region rfl ?_
      refine GoOps.q (v := .pointer p0) rfl rfl (by decide) (q_move e7_0) ?_
      obtain ⟨a11, ha12, h⟩ := h
      refine GoOps.q (v := .pointer (some a11)) rfl rfl (by decide) (q_nilCheck (ptn rfl ha12)) ?_
      refine GoOps.q (v := .pointer (some (a11.add 2))) rfl rfl (by decide) (q_fieldAddr foff60_2 rfl) ?_
      obtain ⟨x13, hx14, h⟩ := h
      refine GoOps.q (v := Sl.v x13) rfl rfl (by decide) (q_load scalar53 rfl hx14) ?_
      refine GoOps.q (v := .int .i64 p1) rfl rfl (by decide) (q_move e7_1) ?_
      obtain ⟨a15, ha16, h⟩ := h
      refine GoOps.q (v := .pointer (some a15)) rfl rfl (by decide) (q_idx slice53 ha16 rfl rfl) ?_
      obtain ⟨q18b, q18o, q18c, q18e, hq18a, hq18b, hq18l, hq18v, h⟩ := h
      refine op_none rfl rfl (do_store (vs := [.bool false]) size4 (pta rfl hq18a) rfl rfl rfl hq18v hq18b hq18l ?_) 
      refine GoOps.nil ?_
      refine Go.seq ?_
      refine Go.region rfl ?_
      refine GoOps.q (v := .bool true) rfl rfl (by decide) (q_assign rfl) ?_
      refine GoOps.nil ?_
      exact Go.ret ⟨.inl rfl, _, _, DOk.nil, (resOk1 Try.results26 rfl), ⟨_, rfl, h⟩⟩
  · intro j5 hj5 h
    rcases bor ((y2.len : Int) == 0) with hc3 | hc3
    · have h := h.1 hc3
      refine no_dst (want_no rfl rfl rfl hc3) rfl (by decide) ?_
      refine no_dst (want_no rfl rfl rfl hc3) rfl (by decide) ?_
      refine no_dst (want_no rfl rfl rfl hc3) rfl (by decide) ?_
      refine no_dst (want_no rfl rfl rfl hc3) rfl (by decide) ?_
      refine no_dst (want_no rfl rfl rfl hc3) rfl (by decide) ?_
      refine GoOps.q (v := .bool true) rfl rfl (by decide) (q_pickT (btT rfl hc3) rfl) ?_
      exact hj5 true _ _ h (by exact ⟨rfl, rfl, rfl, rfl, rfl⟩)
    · have h := h.2 hc3
      refine GoOps.q (v := Sl.v p2) (want_yes rfl rfl rfl hc3) rfl (by decide) (q_move rfl) ?_
      refine GoOps.q (v := .int .i64 (p2.len : Int)) (want_yes rfl rfl rfl hc3) rfl (by decide) (q_len Try.underlying31 rfl (ls1 rfl)) ?_
      refine GoOps.q (v := Sl.v y2) (want_yes rfl rfl rfl hc3) rfl (by decide) (q_move rfl) ?_
      refine GoOps.q (v := .int .i64 (y2.len : Int)) (want_yes rfl rfl rfl hc3) rfl (by decide) (q_len Try.underlying31 rfl (ls1 rfl)) ?_
      refine GoOps.q (v := .bool ((p2.len : Int) != (y2.len : Int))) (want_yes rfl rfl rfl hc3) rfl (by decide) (q_neq rfl rfl) ?_
      refine GoOps.q (v := .bool ((p2.len : Int) != (y2.len : Int))) rfl rfl (by decide) (q_pickF (btF rfl hc3) rfl) ?_
      exact hj5 ((p2.len : Int) != (y2.len : Int)) _ _ h (by exact ⟨rfl, rfl, rfl, rfl, rfl⟩)


end Go.Proofs.Ytgnnfafidhfhfaa

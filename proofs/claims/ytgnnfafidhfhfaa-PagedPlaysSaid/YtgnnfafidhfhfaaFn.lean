import Derived.Test.YtgnnfafidhfhfaaFnp2
set_option linter.unusedVariables false
set_option linter.unusedSimpArgs false
namespace Go.Proofs.Ytgnnfafidhfhfaa
open Go Go.Kx Go.Proofs
/-- keelson.keelsonlaw11.PagedPlays -/
def keelsonlaw11_PagedPlays (p0 : Int) (p1 : Int) (p2 : Int) (p3 : Sl) (H : PH) (Q : Bool → PH → Prop) : Prop :=
  mIf (decide (60 < (p3.len : Int)))
  (keelsonlaw11_awake H fun y3 H2 =>
  Q y3 H2)
  (paged_New_int p0 p1 p2 H fun y5 H4 =>
  keelsonref1_Within p0 1 65536 H4 fun y7 H6 =>
  mJoin (fun (s9 : Bool) (H11 : PH) =>
  mIf s9
  (mJoin (fun (s15 : Bool) (H17 : PH) =>
  Q s15 H17)
  fun j16 =>
  mIf (Option.isNone y5)
  (keelsonlaw11_awake H11 fun y20 H19 =>
  j16 y20 H19)
  (j16 false H11))
  (mJoin (fun (s22 : Bool) (H24 : PH) =>
  mJoin (fun (s27 : Bool) (H29 : PH) =>
  mIf s27
  (Q false H29)
  (mIf (decide (300 < p0))
  (keelsonlaw11_awake H29 fun y34 H33 =>
  Q y34 H33)
  (mMk H29 3 8 [.int .i64 0] p0 p0 fun r35 H36 =>
  mLoop (fun (s39 : Int) (H42 : PH) (again40 : Int → PH → Prop) =>
  mIf (decide (s39 < p0))
  (mIdx r35 1 s39 fun a44 =>
  mSt H42 a44 ([.int .i64 p2]) fun H46 =>
  again40 (IntKind.wrap .i64 (s39 + 1)) H46)
  (keelsonref1_Up p0 p1 H42 fun y49 H48 =>
  mMk H48 4 1 [.bool false] y49 y49 fun r50 H51 =>
  mLoop (fun (s54 : Sl × Int) (H57 : PH) (again55 : (Sl × Int) → PH → Prop) =>
  mIf (decide (s54.2 < (p3.len : Int)))
  (mIdx p3 4 s54.2 fun a59 =>
  mLdR (fun (x : (Int × Int × Int × Sl)) => [.int .i64 x.1, .int .i64 x.2.1, .int .i64 x.2.2.1, Sl.v x.2.2.2]) H57 a59 4 fun x61 =>
  mNew H57 (row [.int .i64 0, .int .i64 0, .int .i64 0, .slice none 0 0] 55) fun a63 H64 =>
  mSt H64 a63 ([.int .i64 x61.1, .int .i64 x61.2.1, .int .i64 x61.2.2.1, Sl.v x61.2.2.2]) fun H66 =>
  mLd Sl.v H66 (a63.add 3) fun x68 =>
  mIf (decide (300 < (x68.len : Int)))
  (keelsonlaw11_awake H66 fun y72 H71 =>
  Q y72 H71)
  (mLd (.int .i64) H66 (a63.add 0) fun x73 =>
  mJoin (fun (s75 : Sl) (H77 : PH) =>
  mLoop (fun (s79 : Sl × Int) (H82 : PH) (again80 : (Sl × Int) → PH → Prop) =>
  mIf (decide (s79.2 < (s75.len : Int)))
  (mJoin (fun (s84 : Sl) (H86 : PH) =>
  again80 (s84, IntKind.wrap .i64 (s79.2 + 1)) H86)
  fun j85 =>
  mIdx s75 1 s79.2 fun a88 =>
  mLd .bool H82 a88 fun x90 =>
  mIf x90
  (mNewS H82 (row [.int .i64 s79.2] 3) 1 fun r93 H94 =>
  mApp H94 3 1 8 [.int .i64 0] s79.1 r93 fun r96 H97 =>
  j85 r96 H97)
  (j85 s79.1 H82))
  (keelsonlaw11_dirty y5 400 H82 fun y99 H98 =>
  keelsonalike_Ints y99 s79.1 H98 fun y101 H100 =>
  mIf (!y101)
  (Q false H100)
  (again55 (s75, IntKind.wrap .i64 (s54.2 + 1)) H100)))
  (Sl.nil, 0) H77)
  fun j76 =>
  mIf (x73 == 1)
  (mLd (.int .i64) H66 (a63.add 1) fun x104 =>
  mJoin (fun (s107 : Bool) (H109 : PH) =>
  mLd (.int .i64) H109 (a63.add 1) fun x111 =>
  mLd (.int .i64) H109 (a63.add 2) fun x113 =>
  paged_Paged_int_Set y5 x111 x113 H109 fun y116 H115 =>
  mIf (y116 != s107)
  (Q false H115)
  (mJoin (fun (s119 : Bool) (H121 : PH) =>
  mIf s119
  (mLd (.int .i64) H121 (a63.add 1) fun x124 =>
  mLd (.int .i64) H121 (a63.add 2) fun x126 =>
  mIdx r35 1 x124 fun a128 =>
  mSt H121 a128 ([.int .i64 x126]) fun H130 =>
  mLd (.int .i64) H130 (a63.add 1) fun x132 =>
  mNe p1 <|
  mIdx s54.1 1 (IntKind.wrap .i64 (Int.tdiv x132 p1)) fun a135 =>
  mSt H130 a135 ([.bool true]) fun H137 =>
  j76 s54.1 H137)
  (j76 s54.1 H121))
  fun j120 =>
  mIf s107
  (mLd (.int .i64) H115 (a63.add 1) fun x139 =>
  mIdx r35 1 x139 fun a141 =>
  mLd (.int .i64) H115 a141 fun x143 =>
  mLd (.int .i64) H115 (a63.add 2) fun x145 =>
  j120 (x143 != x145) H115)
  (j120 false H115)))
  fun j108 =>
  mIf (decide (0 ≤ x104))
  (mLd (.int .i64) H66 (a63.add 1) fun x147 =>
  j108 (decide (x147 < p0)) H66)
  (j108 false H66))
  (mIf (x73 == 2)
  (mLd (.int .i64) H66 (a63.add 1) fun x150 =>
  mJoin (fun (s153 : Bool) (H155 : PH) =>
  mJoin (fun (s158 : Bool) (H160 : PH) =>
  mLd (.int .i64) H160 (a63.add 1) fun x162 =>
  mLd Sl.v H160 (a63.add 3) fun x164 =>
  paged_Paged_int_Load y5 x162 x164 H160 fun y167 H166 =>
  mIf (y167 != s158)
  (Q false H166)
  (mIf s158
  (mLd (.int .i64) H166 (a63.add 1) fun x170 =>
  mCut r35 1 (IntKind.wrap .i64 (x170 * p1)) (r35.len : Int) fun r173 =>
  mLd Sl.v H166 (a63.add 3) fun x174 =>
  mCopy H166 1 r173 x174 fun x176 H177 =>
  mLd (.int .i64) H177 (a63.add 1) fun x178 =>
  mIdx s54.1 1 x178 fun a180 =>
  mSt H177 a180 ([.bool false]) fun H182 =>
  j76 s54.1 H182)
  (j76 s54.1 H166)))
  fun j159 =>
  mIf s153
  (mLd Sl.v H155 (a63.add 3) fun x184 =>
  mLd (.int .i64) H155 (a63.add 1) fun x186 =>
  mLd (.int .i64) H155 (a63.add 1) fun x188 =>
  j159 ((x184.len : Int) == (IntKind.wrap .i64 ((if p0 < (IntKind.wrap .i64 ((IntKind.wrap .i64 (x186 + 1)) * p1)) then p0 else (IntKind.wrap .i64 ((IntKind.wrap .i64 (x186 + 1)) * p1))) - (IntKind.wrap .i64 (x188 * p1))))) H155)
  (j159 false H155))
  fun j154 =>
  mIf (decide (0 ≤ x150))
  (mLd (.int .i64) H66 (a63.add 1) fun x190 =>
  j154 (decide (x190 < (s54.1.len : Int))) H66)
  (j154 false H66))
  (mIf (x73 == 3)
  (paged_Paged_int_Clean y5 H66 fun H193 =>
  mMk H193 4 1 [.bool false] (s54.1.len : Int) (s54.1.len : Int) fun r194 H195 =>
  j76 r194 H195)
  (mIf (x73 == 4)
  (mLd (.int .i64) H66 (a63.add 1) fun x199 =>
  paged_Paged_int_Get y5 x199 H66 fun y202 y203 H201 =>
  mLd (.int .i64) H201 (a63.add 1) fun x204 =>
  mJoin (fun (s207 : Bool) (H209 : PH) =>
  mJoin (fun (s212 : Bool) (H214 : PH) =>
  mJoin (fun (s217 : Bool) (H219 : PH) =>
  mIf s217
  (Q false H219)
  (j76 s54.1 H219))
  fun j218 =>
  mIf s212
  (j218 true H214)
  (mJoin (fun (s223 : Bool) (H225 : PH) =>
  j218 s223 H225)
  fun j224 =>
  mIf (!s207)
  (j224 (y202 != 0) H214)
  (j224 false H214)))
  fun j213 =>
  mIf (y203 != s207)
  (j213 true H209)
  (mJoin (fun (s228 : Bool) (H230 : PH) =>
  j213 s228 H230)
  fun j229 =>
  mIf s207
  (mLd (.int .i64) H209 (a63.add 1) fun x232 =>
  mIdx r35 1 x232 fun a234 =>
  mLd (.int .i64) H209 a234 fun x236 =>
  j229 (y202 != x236) H209)
  (j229 false H209)))
  fun j208 =>
  mIf (decide (0 ≤ x204))
  (mLd (.int .i64) H201 (a63.add 1) fun x238 =>
  j208 (decide (x238 < p0)) H201)
  (j208 false H201))
  (j76 s54.1 H66))))))
  (keelsonlaw11_all y5 H57 fun y241 y242 H240 =>
  mJoin (fun (s244 : Bool) (H246 : PH) =>
  mJoin (fun (s249 : Bool) (H251 : PH) =>
  Q s249 H251)
  fun j250 =>
  mIf s244
  (keelsonlaw11_awake H246 fun y254 H253 =>
  j250 y254 H253)
  (j250 false H246))
  fun j245 =>
  mIf y242
  (keelsonalike_Ints y241 r35 H240 fun y256 H255 =>
  j245 y256 H255)
  (j245 false H240)))
  (r50, 0) H51))
  0 H36)))
  fun j28 =>
  mIf s22
  (j28 true H24)
  (paged_Paged_int_Pages y5 H24 fun y258 H257 =>
  keelsonref1_Up p0 p1 H257 fun y260 H259 =>
  j28 (y258 != y260) H259))
  fun j23 =>
  mIf (Option.isNone y5)
  (j23 true H11)
  (paged_Paged_int_Len y5 H11 fun y262 H261 =>
  j23 (y262 != p0) H261)))
  fun j10 =>
  mIf (!y7)
  (j10 true H6)
  (keelsonref1_Within p1 1 65536 H6 fun y264 H263 =>
  j10 (!y264) H263))

set_option maxRecDepth 20000 in
set_option maxHeartbeats 1000000 in
theorem keelsonlaw11_PagedPlays_s (p0 : Int) (p1 : Int) (p2 : Int) (p3 : Sl) (H : PH) (Q : Bool → PH → Prop) (h : keelsonlaw11_PagedPlays p0 p1 p2 p3 H Q) :
    CallsH Try.prog 6 #[.int .i64 p0, .int .i64 p1, .int .i64 p2, Sl.v p3] H (fun v H' => ∃ (r0 : Bool), v = .bool r0 ∧ Q r0 H') := by
  unfold keelsonlaw11_PagedPlays at h
  refine callsH_of_go Try.func6 rfl Try.ntmps6 (Nat.le_of_ble_eq_true rfl) ?_
  refine Go.seq ?_
  refine Go.region rfl ?_
  refine GoOps.q (v := .bool false) rfl rfl (by decide) (q_assign rfl) ?_
  refine GoOps.nil ?_
  refine Go.seq ?_
  refine Go.seq ?_
  refine Go.region rfl ?_
  refine GoOps.q (v := Sl.v p3) rfl rfl (by decide) (q_move rfl) ?_
  refine GoOps.q (v := .int .i64 (p3.len : Int)) rfl rfl (by decide) (q_len Try.underlying51 rfl (ls1 rfl)) ?_
  refine GoOps.q (v := .bool (decide (60 < (p3.len : Int)))) rfl rfl (by decide) (q_gtr rfl rfl) ?_
  refine GoOps.nil ?_
  rcases bor (decide (60 < (p3.len : Int))) with hc1 | hc1
  · have h := h.1 hc1
    refine Go.condT (btT rfl hc1) ?_
    refine Go.seq ?_
    refine Go.region rfl ?_
    refine call_dst rfl (by decide) body7 (keelsonlaw11_awake_s _ _ h) rfl ?_
    rintro _ H2 ⟨y3, rfl, h⟩
    refine GoOps.q (v := .bool y3) rfl rfl (by decide) (q_assign rfl) ?_
    refine GoOps.nil ?_
    exact Go.ret ⟨.inl rfl, _, _, DOk.nil, (resOk1 Try.results6 rfl), ⟨_, rfl, h⟩⟩
  · have h := h.2 hc1
    refine Go.condF (btF rfl hc1) ?_
    refine Go.skip ?_
    refine Go.seq ?_
    refine Go.region rfl ?_
    refine GoOps.q (v := .int .i64 p0) rfl rfl (by decide) (q_move rfl) ?_
    refine GoOps.q (v := .int .i64 p1) rfl rfl (by decide) (q_move rfl) ?_
    refine GoOps.q (v := .int .i64 p2) rfl rfl (by decide) (q_move rfl) ?_
    refine call_dst rfl (by decide) body8 (paged_New_int_s _ _ _ _ _ h) rfl ?_
    rintro _ H4 ⟨y5, rfl, h⟩
    refine GoOps.q (v := .pointer y5) rfl rfl (by decide) (q_assign rfl) ?_
    refine GoOps.nil ?_
    refine Go.seq ?_
    refine Go.seq ?_
    refine Go.region rfl ?_
    refine GoOps.q (v := .int .i64 p0) rfl rfl (by decide) (q_move rfl) ?_
    refine call_dst rfl (by decide) body23 (keelsonref1_Within_s _ _ _ _ _ h) rfl ?_
    rintro _ H6 ⟨y7, rfl, h⟩
    refine GoOps.q (v := .bool (!y7)) rfl rfl (by decide) (q_not rfl) ?_
    refine GoOps.q (v := .bool (!y7)) rfl rfl (by decide) (q_move rfl) ?_
    refine join_ops 4 (fun ρ (s9 : Bool) => ρ 0 = .int .i64 p0 ∧ ρ 1 = .int .i64 p1 ∧ ρ 2 = .int .i64 p2 ∧ ρ 3 = Sl.v p3 ∧ ρ 9 = .pointer y5 ∧ ρ 39 = .bool s9) h ?_ ?_ <;> clear h
    · intro s9 H11 ρ h hE
      obtain ⟨e12_0, e12_1, e12_2, e12_3, e12_9, e12_39⟩ := hE
      refine GoOps.nil ?_
      rcases bor s9 with hc13 | hc13
      · have h := h.1 hc13
        refine Go.condT (btT e12_39 hc13) ?_
        refine Go.seq ?_
        refine Go.region rfl ?_
        refine GoOps.q (v := .pointer y5) rfl rfl (by decide) (q_move e12_9) ?_
        refine GoOps.q (v := .bool (Option.isNone y5)) rfl rfl (by decide) (q_eqlPn Try.underlying24 rfl rfl) ?_
        refine GoOps.q (v := .bool (Option.isNone y5)) rfl rfl (by decide) (q_move rfl) ?_
        refine join_ops 2 (fun ρ (s15 : Bool) => ρ 44 = .bool s15) h ?_ ?_ <;> clear h
        · intro s15 H17 ρ h hE
          have e18_44 := hE
          refine GoOps.q (v := .bool s15) rfl rfl (by decide) (q_assign e18_44) ?_
          refine GoOps.nil ?_
          exact Go.ret ⟨.inl rfl, _, _, DOk.nil, (resOk1 Try.results6 rfl), ⟨_, rfl, h⟩⟩
        · intro j16 hj16 h
          rcases bor (Option.isNone y5) with hc14 | hc14
          · have h := h.1 hc14
            refine call_dst (want_yes rfl rfl rfl hc14) (by decide) body7 (keelsonlaw11_awake_s _ _ h) rfl ?_
            rintro _ H19 ⟨y20, rfl, h⟩
            refine GoOps.q (v := .bool y20) rfl rfl (by decide) (q_pickT (btT rfl hc14) rfl) ?_
            exact hj16 y20 _ _ h (by exact rfl)
          · have h := h.2 hc14
            refine no_dst (want_no rfl rfl rfl hc14) rfl (by decide) ?_
            refine GoOps.q (v := .bool false) rfl rfl (by decide) (q_pickF (btF rfl hc14) rfl) ?_
            exact hj16 false _ _ h (by exact rfl)
      · have h := h.2 hc13
        refine Go.condF (btF e12_39 hc13) ?_
        refine Go.skip ?_
        refine Go.seq ?_
        refine Go.seq ?_
        refine Go.region rfl ?_
        refine GoOps.q (v := .pointer y5) rfl rfl (by decide) (q_move e12_9) ?_
        refine GoOps.q (v := .bool (Option.isNone y5)) rfl rfl (by decide) (q_eqlPn Try.underlying24 rfl rfl) ?_
        refine GoOps.q (v := .bool (Option.isNone y5)) rfl rfl (by decide) (q_move rfl) ?_
        refine join_ops 5 (fun ρ (s22 : Bool) => ρ 0 = .int .i64 p0 ∧ ρ 1 = .int .i64 p1 ∧ ρ 2 = .int .i64 p2 ∧ ρ 3 = Sl.v p3 ∧ ρ 9 = .pointer y5 ∧ ρ 52 = .bool s22) h ?_ ?_ <;> clear h
        · intro s22 H24 ρ h hE
          obtain ⟨e25_0, e25_1, e25_2, e25_3, e25_9, e25_52⟩ := hE
          refine GoOps.q (v := .bool s22) rfl rfl (by decide) (q_move e25_52) ?_
          refine join_ops 7 (fun ρ (s27 : Bool) => ρ 0 = .int .i64 p0 ∧ ρ 1 = .int .i64 p1 ∧ ρ 2 = .int .i64 p2 ∧ ρ 3 = Sl.v p3 ∧ ρ 9 = .pointer y5 ∧ ρ 60 = .bool s27) h ?_ ?_ <;> clear h
          · intro s27 H29 ρ h hE
            obtain ⟨e30_0, e30_1, e30_2, e30_3, e30_9, e30_60⟩ := hE
            refine GoOps.nil ?_
            rcases bor s27 with hc31 | hc31
            · have h := h.1 hc31
              refine Go.condT (btT e30_60 hc31) ?_
              refine Go.seq ?_
              refine Go.region rfl ?_
              refine GoOps.q (v := .bool false) rfl rfl (by decide) (q_assign rfl) ?_
              refine GoOps.nil ?_
              exact Go.ret ⟨.inl rfl, _, _, DOk.nil, (resOk1 Try.results6 rfl), ⟨_, rfl, h⟩⟩
            · have h := h.2 hc31
              refine Go.condF (btF e30_60 hc31) ?_
              refine Go.skip ?_
              refine Go.seq ?_
              refine Go.seq ?_
              refine Go.region rfl ?_
              refine GoOps.q (v := .int .i64 p0) rfl rfl (by decide) (q_move e30_0) ?_
              refine GoOps.q (v := .bool (decide (300 < p0))) rfl rfl (by decide) (q_gtr rfl rfl) ?_
              refine GoOps.nil ?_
              rcases bor (decide (300 < p0)) with hc32 | hc32
              · have h := h.1 hc32
                refine Go.condT (btT rfl hc32) ?_
                refine Go.seq ?_
                refine Go.region rfl ?_
                refine call_dst rfl (by decide) body7 (keelsonlaw11_awake_s _ _ h) rfl ?_
                rintro _ H33 ⟨y34, rfl, h⟩
                refine GoOps.q (v := .bool y34) rfl rfl (by decide) (q_assign rfl) ?_
                refine GoOps.nil ?_
                exact Go.ret ⟨.inl rfl, _, _, DOk.nil, (resOk1 Try.results6 rfl), ⟨_, rfl, h⟩⟩
              · have h := h.2 hc32
                refine Go.condF (btF rfl hc32) ?_
                refine Go.skip ?_
                refine Go.seq ?_
                refine Go.region rfl ?_
                refine GoOps.q (v := .int .i64 p0) rfl rfl (by decide) (q_move e30_0) ?_
                obtain ⟨hm38, h⟩ := h
                refine op_dst rfl rfl (by decide) (do_mk (zs := [.int .i64 0]) slice31 bytes3 (by decide) zero3 rfl rfl (by decide) rfl rfl hm38 fun r35 H36 hb37 => ?_) 
                have h := h r35 H36 hb37
                refine GoOps.q (v := Sl.v r35) rfl rfl (by decide) (q_assign rfl) ?_
                refine GoOps.nil ?_
                refine Go.seq ?_
                refine Go.seq ?_
                refine Go.region rfl ?_
                refine GoOps.q (v := .int .i64 0) rfl rfl (by decide) (q_assign rfl) ?_
                refine GoOps.nil ?_
                refine Go.block ?_
                refine loop_go (fun ρ (s39 : Int) => ρ 0 = .int .i64 p0 ∧ ρ 1 = .int .i64 p1 ∧ ρ 2 = .int .i64 p2 ∧ ρ 3 = Sl.v p3 ∧ ρ 9 = .pointer y5 ∧ ρ 10 = Sl.v r35 ∧ ρ 11 = .int .i64 s39) h ⟨e30_0, e30_1, e30_2, e30_3, e30_9, rfl, rfl⟩ ?_
                clear h
                intro ρ s39 H42 again40 hE h hagain40
                obtain ⟨e41_0, e41_1, e41_2, e41_3, e41_9, e41_10, e41_11⟩ := hE
                refine Go.seq ?_
                refine Go.seq ?_
                refine Go.region rfl ?_
                refine GoOps.q (v := .int .i64 s39) rfl rfl (by decide) (q_move e41_11) ?_
                refine GoOps.q (v := .int .i64 p0) rfl rfl (by decide) (q_move e41_0) ?_
                refine GoOps.q (v := .bool (decide (s39 < p0))) rfl rfl (by decide) (q_lss rfl rfl) ?_
                refine GoOps.nil ?_
                rcases bor (decide (s39 < p0)) with hc43 | hc43
                · have h := h.1 hc43
                  refine Go.condT (btT rfl hc43) ?_
                  refine Go.skip ?_
                  refine Go.seq ?_
                  refine Go.block ?_
                  refine Go.region rfl ?_
                  refine GoOps.q (v := Sl.v r35) rfl rfl (by decide) (q_move e41_10) ?_
                  refine GoOps.q (v := .int .i64 s39) rfl rfl (by decide) (q_move e41_11) ?_
                  refine GoOps.q (v := .int .i64 p2) rfl rfl (by decide) (q_move e41_2) ?_
                  obtain ⟨a44, ha45, h⟩ := h
                  refine GoOps.q (v := .pointer (some a44)) rfl rfl (by decide) (q_idx slice31 ha45 rfl rfl) ?_
                  obtain ⟨q47b, q47o, q47c, q47e, hq47a, hq47b, hq47l, hq47v, h⟩ := h
                  refine op_none rfl rfl (do_store (vs := [.int .i64 p2]) size3 (pta rfl hq47a) rfl rfl rfl hq47v hq47b hq47l ?_) 
                  refine GoOps.nil ?_
                  refine Go.inBlock ?_
                  refine Go.region rfl ?_
                  refine GoOps.q (v := .int .i64 s39) rfl rfl (by decide) (q_move e41_11) ?_
                  refine GoOps.q (v := .int .i64 (IntKind.wrap .i64 (s39 + 1))) rfl rfl (by decide) (q_add rfl rfl) ?_
                  refine GoOps.q (v := .int .i64 (IntKind.wrap .i64 (s39 + 1))) rfl rfl (by decide) (q_assign rfl) ?_
                  refine GoOps.nil ?_
                  exact hagain40 _ _ _ h ⟨e41_0, e41_1, e41_2, e41_3, e41_9, e41_10, rfl⟩
                · have h := h.2 hc43
                  refine Go.condF (btF rfl hc43) ?_
                  refine Go.exit rfl ?_
                  refine Go.seq ?_
                  refine Go.region rfl ?_
                  refine GoOps.q (v := .int .i64 p0) rfl rfl (by decide) (q_move e41_0) ?_
                  refine GoOps.q (v := .int .i64 p1) rfl rfl (by decide) (q_move e41_1) ?_
                  refine call_dst rfl (by decide) body25 (keelsonref1_Up_s _ _ _ _ h) rfl ?_
                  rintro _ H48 ⟨y49, rfl, h⟩
                  obtain ⟨hm53, h⟩ := h
                  refine op_dst rfl rfl (by decide) (do_mk (zs := [.bool false]) slice53 bytes4 (by decide) zero4 rfl rfl (by decide) rfl rfl hm53 fun r50 H51 hb52 => ?_) 
                  have h := h r50 H51 hb52
                  refine GoOps.q (v := Sl.v r50) rfl rfl (by decide) (q_assign rfl) ?_
                  refine GoOps.nil ?_
                  refine Go.seq ?_
                  refine Go.seq ?_
                  refine Go.region rfl ?_
                  refine GoOps.q (v := .int .i64 0) rfl rfl (by decide) (q_assign rfl) ?_
                  refine GoOps.nil ?_
                  refine Go.block ?_
                  refine loop_go (fun ρ (s54 : Sl × Int) => ρ 0 = .int .i64 p0 ∧ ρ 1 = .int .i64 p1 ∧ ρ 3 = Sl.v p3 ∧ ρ 9 = .pointer y5 ∧ ρ 10 = Sl.v r35 ∧ ρ 12 = Sl.v s54.1 ∧ ρ 13 = .int .i64 s54.2) h ⟨e41_0, e41_1, e41_3, e41_9, e41_10, rfl, rfl⟩ ?_
                  clear h
                  intro ρ s54 H57 again55 hE h hagain55
                  obtain ⟨e56_0, e56_1, e56_3, e56_9, e56_10, e56_12, e56_13⟩ := hE
                  refine Go.seq ?_
                  refine Go.seq ?_
                  refine Go.region rfl ?_
                  refine GoOps.q (v := .int .i64 s54.2) rfl rfl (by decide) (q_move e56_13) ?_
                  refine GoOps.q (v := Sl.v p3) rfl rfl (by decide) (q_move e56_3) ?_
                  refine GoOps.q (v := .int .i64 (p3.len : Int)) rfl rfl (by decide) (q_len Try.underlying51 rfl (ls1 rfl)) ?_
                  refine GoOps.q (v := .bool (decide (s54.2 < (p3.len : Int)))) rfl rfl (by decide) (q_lss rfl rfl) ?_
                  refine GoOps.nil ?_
                  rcases bor (decide (s54.2 < (p3.len : Int))) with hc58 | hc58
                  · have h := h.1 hc58
                    refine Go.condT (btT rfl hc58) ?_
                    refine Go.skip ?_
                    refine Go.seq ?_
                    refine Go.block ?_
                    refine Go.seq ?_
                    refine Go.region rfl ?_
                    refine GoOps.q (v := Sl.v p3) rfl rfl (by decide) (q_move e56_3) ?_
                    refine GoOps.q (v := .int .i64 s54.2) rfl rfl (by decide) (q_move e56_13) ?_
                    obtain ⟨a59, ha60, h⟩ := h
                    refine GoOps.q (v := .pointer (some a59)) rfl rfl (by decide) (q_idx slice51 ha60 rfl rfl) ?_
                    obtain ⟨x61, hx62, h⟩ := h
                    refine GoOps.q (v := .agg ([.int .i64 x61.1, .int .i64 x61.2.1, .int .i64 x61.2.2.1, Sl.v x61.2.2.2] : List Value).toArray) rfl rfl (by decide) (q_loadA aggr55 rfl hx62) ?_
                    refine op_dst rfl rfl (by decide) (do_new zero55 rfl fun a63 H64 hb65 => ?_) 
                    have h := h a63 H64 hb65
                    obtain ⟨q67b, q67o, q67c, q67e, hq67a, hq67b, hq67l, hq67v, h⟩ := h
                    refine op_none rfl rfl (do_store (vs := [.int .i64 x61.1, .int .i64 x61.2.1, .int .i64 x61.2.2.1, Sl.v x61.2.2.2]) size55 (pta rfl hq67a) rfl rfl rfl hq67v hq67b hq67l ?_) 
                    refine GoOps.nil ?_
                    refine Go.seq ?_
                    refine Go.seq ?_
                    refine Go.region rfl ?_
                    refine GoOps.q (v := .pointer (some (a63.add 3))) rfl rfl (by decide) (q_fieldAddr foff55_3 rfl) ?_
                    obtain ⟨x68, hx69, h⟩ := h
                    refine GoOps.q (v := Sl.v x68) rfl rfl (by decide) (q_load scalar31 rfl hx69) ?_
                    refine GoOps.q (v := .int .i64 (x68.len : Int)) rfl rfl (by decide) (q_len Try.underlying31 rfl (ls1 rfl)) ?_
                    refine GoOps.q (v := .bool (decide (300 < (x68.len : Int)))) rfl rfl (by decide) (q_gtr rfl rfl) ?_
                    refine GoOps.nil ?_
                    rcases bor (decide (300 < (x68.len : Int))) with hc70 | hc70
                    · have h := h.1 hc70
                      refine Go.condT (btT rfl hc70) ?_
                      refine Go.seq ?_
                      refine Go.region rfl ?_
                      refine call_dst rfl (by decide) body7 (keelsonlaw11_awake_s _ _ h) rfl ?_
                      rintro _ H71 ⟨y72, rfl, h⟩
                      refine GoOps.q (v := .bool y72) rfl rfl (by decide) (q_assign rfl) ?_
                      refine GoOps.nil ?_
                      exact Go.ret ⟨.inl rfl, _, _, DOk.nil, (resOk1 Try.results6 rfl), ⟨_, rfl, h⟩⟩
                    · have h := h.2 hc70
                      refine Go.condF (btF rfl hc70) ?_
                      refine Go.skip ?_
                      refine Go.seq ?_
                      refine Go.seq ?_
                      refine Go.region rfl ?_
                      refine GoOps.q (v := .pointer (some (a63.add 0))) rfl rfl (by decide) (q_fieldAddr foff55_0 rfl) ?_
                      obtain ⟨x73, hx74, h⟩ := h
                      refine GoOps.q (v := .int .i64 x73) rfl rfl (by decide) (q_load scalar3 rfl hx74) ?_
                      refine GoOps.nil ?_
                      refine join_go 1 (fun ρ (s75 : Sl) => ρ 0 = .int .i64 p0 ∧ ρ 1 = .int .i64 p1 ∧ ρ 3 = Sl.v p3 ∧ ρ 9 = .pointer y5 ∧ ρ 10 = Sl.v r35 ∧ ρ 12 = Sl.v s75 ∧ ρ 13 = .int .i64 s54.2) h ?_ ?_ <;> clear h
                      · intro s75 H77 ρ h hE
                        obtain ⟨e78_0, e78_1, e78_3, e78_9, e78_10, e78_12, e78_13⟩ := hE
                        refine Go.seq ?_
                        refine Go.region rfl ?_
                        refine GoOps.q (v := Sl.v Sl.nil) rfl rfl (by decide) (q_assign rfl) ?_
                        refine GoOps.nil ?_
                        refine Go.seq ?_
                        refine Go.seq ?_
                        refine Go.region rfl ?_
                        refine GoOps.q (v := .int .i64 0) rfl rfl (by decide) (q_assign rfl) ?_
                        refine GoOps.nil ?_
                        refine Go.block ?_
                        refine loop_go (fun ρ (s79 : Sl × Int) => ρ 0 = .int .i64 p0 ∧ ρ 1 = .int .i64 p1 ∧ ρ 3 = Sl.v p3 ∧ ρ 9 = .pointer y5 ∧ ρ 10 = Sl.v r35 ∧ ρ 12 = Sl.v s75 ∧ ρ 13 = .int .i64 s54.2 ∧ ρ 20 = Sl.v s79.1 ∧ ρ 21 = .int .i64 s79.2) h ⟨e78_0, e78_1, e78_3, e78_9, e78_10, e78_12, e78_13, rfl, rfl⟩ ?_
                        clear h
                        intro ρ s79 H82 again80 hE h hagain80
                        obtain ⟨e81_0, e81_1, e81_3, e81_9, e81_10, e81_12, e81_13, e81_20, e81_21⟩ := hE
                        refine Go.seq ?_
                        refine Go.seq ?_
                        refine Go.region rfl ?_
                        refine GoOps.q (v := .int .i64 s79.2) rfl rfl (by decide) (q_move e81_21) ?_
                        refine GoOps.q (v := Sl.v s75) rfl rfl (by decide) (q_move e81_12) ?_
                        refine GoOps.q (v := .int .i64 (s75.len : Int)) rfl rfl (by decide) (q_len Try.underlying53 rfl (ls1 rfl)) ?_
                        refine GoOps.q (v := .bool (decide (s79.2 < (s75.len : Int)))) rfl rfl (by decide) (q_lss rfl rfl) ?_
                        refine GoOps.nil ?_
                        rcases bor (decide (s79.2 < (s75.len : Int))) with hc83 | hc83
                        · have h := h.1 hc83
                          refine Go.condT (btT rfl hc83) ?_
                          refine Go.skip ?_
                          refine Go.seq ?_
                          refine join_go 1 (fun ρ (s84 : Sl) => ρ 0 = .int .i64 p0 ∧ ρ 1 = .int .i64 p1 ∧ ρ 3 = Sl.v p3 ∧ ρ 9 = .pointer y5 ∧ ρ 10 = Sl.v r35 ∧ ρ 12 = Sl.v s75 ∧ ρ 13 = .int .i64 s54.2 ∧ ρ 20 = Sl.v s84 ∧ ρ 21 = .int .i64 s79.2) h ?_ ?_ <;> clear h
                          · intro s84 H86 ρ h hE
                            obtain ⟨e87_0, e87_1, e87_3, e87_9, e87_10, e87_12, e87_13, e87_20, e87_21⟩ := hE
                            refine Go.region rfl ?_
                            refine GoOps.q (v := .int .i64 s79.2) rfl rfl (by decide) (q_move e87_21) ?_
                            refine GoOps.q (v := .int .i64 (IntKind.wrap .i64 (s79.2 + 1))) rfl rfl (by decide) (q_add rfl rfl) ?_
                            refine GoOps.q (v := .int .i64 (IntKind.wrap .i64 (s79.2 + 1))) rfl rfl (by decide) (q_assign rfl) ?_
                            refine GoOps.nil ?_
                            exact hagain80 _ _ _ h ⟨e87_0, e87_1, e87_3, e87_9, e87_10, e87_12, e87_13, e87_20, rfl⟩
                          · intro j85 hj85 h
                            refine Go.block ?_
                            refine Go.seq ?_
                            refine Go.region rfl ?_
                            refine GoOps.q (v := Sl.v s75) rfl rfl (by decide) (q_move e81_12) ?_
                            refine GoOps.q (v := .int .i64 s79.2) rfl rfl (by decide) (q_move e81_21) ?_
                            obtain ⟨a88, ha89, h⟩ := h
                            refine GoOps.q (v := .pointer (some a88)) rfl rfl (by decide) (q_idx slice53 ha89 rfl rfl) ?_
                            obtain ⟨x90, hx91, h⟩ := h
                            refine GoOps.q (v := .bool x90) rfl rfl (by decide) (q_load scalar4 rfl hx91) ?_
                            refine GoOps.nil ?_
                            rcases bor x90 with hc92 | hc92
                            · have h := h.1 hc92
                              refine Go.condT (btT rfl hc92) ?_
                              refine Go.region rfl ?_
                              refine GoOps.q (v := Sl.v s79.1) rfl rfl (by decide) (q_move e81_20) ?_
                              refine GoOps.q (v := .int .i64 s79.2) rfl rfl (by decide) (q_move e81_21) ?_
                              refine op_dst rfl rfl (by decide) (do_bs (ps := [(0, .int .i64 s79.2)]) (zs := [.int .i64 0]) (cs := [.int .i64 s79.2]) slice31 zero3 rfl rfl (by decide) (by decide) rfl rfl fun r93 H94 hb95 => ?_) 
                              have h := h r93 H94 hb95
                              refine op_dst rfl rfl (by decide) (do_append (zs := [.int .i64 0]) slice31 bytes3 (by decide) zero3 rfl rfl (by decide) rfl rfl Try.underlying31 rfl h fun r96 H97 h => ?_) 
                              refine GoOps.q (v := Sl.v r96) rfl rfl (by decide) (q_assign rfl) ?_
                              refine GoOps.nil ?_
                              refine Go.inBlock ?_
                              exact hj85 _ _ _ h ⟨e81_0, e81_1, e81_3, e81_9, e81_10, e81_12, e81_13, rfl, e81_21⟩
                            · have h := h.2 hc92
                              refine Go.condF (btF rfl hc92) ?_
                              refine Go.skip ?_
                              refine Go.inBlock ?_
                              exact hj85 _ _ _ h ⟨e81_0, e81_1, e81_3, e81_9, e81_10, e81_12, e81_13, e81_20, e81_21⟩
                        · have h := h.2 hc83
                          refine Go.condF (btF rfl hc83) ?_
                          refine Go.exit rfl ?_
                          refine Go.seq ?_
                          refine Go.region rfl ?_
                          refine GoOps.q (v := .pointer y5) rfl rfl (by decide) (q_move e81_9) ?_
                          refine call_dst rfl (by decide) body13 (keelsonlaw11_dirty_s _ _ _ _ h) rfl ?_
                          rintro _ H98 ⟨y99, rfl, h⟩
                          refine GoOps.q (v := Sl.v s79.1) rfl rfl (by decide) (q_move e81_20) ?_
                          refine call_dst rfl (by decide) body12 (keelsonalike_Ints_s _ _ _ _ h) rfl ?_
                          rintro _ H100 ⟨y101, rfl, h⟩
                          refine GoOps.q (v := .bool (!y101)) rfl rfl (by decide) (q_not rfl) ?_
                          refine GoOps.nil ?_
                          rcases bor (!y101) with hc102 | hc102
                          · have h := h.1 hc102
                            refine Go.condT (btT rfl hc102) ?_
                            refine Go.seq ?_
                            refine Go.region rfl ?_
                            refine GoOps.q (v := .bool false) rfl rfl (by decide) (q_assign rfl) ?_
                            refine GoOps.nil ?_
                            exact Go.ret ⟨.inl rfl, _, _, DOk.nil, (resOk1 Try.results6 rfl), ⟨_, rfl, h⟩⟩
                          · have h := h.2 hc102
                            refine Go.condF (btF rfl hc102) ?_
                            refine Go.skip ?_
                            refine Go.inBlock ?_
                            refine Go.region rfl ?_
                            refine GoOps.q (v := .int .i64 s54.2) rfl rfl (by decide) (q_move e81_13) ?_
                            refine GoOps.q (v := .int .i64 (IntKind.wrap .i64 (s54.2 + 1))) rfl rfl (by decide) (q_add rfl rfl) ?_
                            refine GoOps.q (v := .int .i64 (IntKind.wrap .i64 (s54.2 + 1))) rfl rfl (by decide) (q_assign rfl) ?_
                            refine GoOps.nil ?_
                            exact hagain55 _ _ _ h ⟨e81_0, e81_1, e81_3, e81_9, e81_10, e81_12, rfl⟩
                      · intro j76 hj76 h
                        refine Go.block ?_
                        refine Go.seq ?_
                        refine Go.region rfl ?_
                        refine GoOps.q (v := .bool (x73 == 1)) rfl rfl (by decide) (q_eql rfl rfl) ?_
                        refine GoOps.q (v := .bool (x73 == 1)) rfl rfl (by decide) (q_assign rfl) ?_
                        refine GoOps.nil ?_
                        rcases bor (x73 == 1) with hc103 | hc103
                        · have h := h.1 hc103
                          refine Go.condT (btT rfl hc103) ?_
                          refine Go.seq ?_
                          refine Go.region rfl ?_
                          refine GoOps.q (v := .pointer (some (a63.add 1))) rfl rfl (by decide) (q_fieldAddr foff55_1 rfl) ?_
                          obtain ⟨x104, hx105, h⟩ := h
                          refine GoOps.q (v := .int .i64 x104) rfl rfl (by decide) (q_load scalar3 rfl hx105) ?_
                          refine GoOps.q (v := .bool (decide (0 ≤ x104))) rfl rfl (by decide) (q_geq rfl rfl) ?_
                          refine GoOps.q (v := .bool (decide (0 ≤ x104))) rfl rfl (by decide) (q_move rfl) ?_
                          refine join_ops 5 (fun ρ (s107 : Bool) => ρ 0 = .int .i64 p0 ∧ ρ 1 = .int .i64 p1 ∧ ρ 3 = Sl.v p3 ∧ ρ 9 = .pointer y5 ∧ ρ 10 = Sl.v r35 ∧ ρ 12 = Sl.v s54.1 ∧ ρ 13 = .int .i64 s54.2 ∧ ρ 14 = .pointer (some a63) ∧ ρ 106 = .bool s107) h ?_ ?_ <;> clear h
                          · intro s107 H109 ρ h hE
                            obtain ⟨e110_0, e110_1, e110_3, e110_9, e110_10, e110_12, e110_13, e110_14, e110_106⟩ := hE
                            refine GoOps.q (v := .bool s107) rfl rfl (by decide) (q_assign e110_106) ?_
                            refine GoOps.nil ?_
                            refine Go.seq ?_
                            refine Go.seq ?_
                            refine Go.region rfl ?_
                            refine GoOps.q (v := .pointer y5) rfl rfl (by decide) (q_move e110_9) ?_
                            refine GoOps.q (v := .pointer (some (a63.add 1))) rfl rfl (by decide) (q_fieldAddr foff55_1 e110_14) ?_
                            obtain ⟨x111, hx112, h⟩ := h
                            refine GoOps.q (v := .int .i64 x111) rfl rfl (by decide) (q_load scalar3 rfl hx112) ?_
                            refine GoOps.q (v := .pointer (some (a63.add 2))) rfl rfl (by decide) (q_fieldAddr foff55_2 e110_14) ?_
                            obtain ⟨x113, hx114, h⟩ := h
                            refine GoOps.q (v := .int .i64 x113) rfl rfl (by decide) (q_load scalar3 rfl hx114) ?_
                            refine call_dst rfl (by decide) body10 (paged_Paged_int_Set_s _ _ _ _ _ h) rfl ?_
                            rintro _ H115 ⟨y116, rfl, h⟩
                            refine GoOps.q (v := .bool s107) rfl rfl (by decide) (q_move rfl) ?_
                            refine GoOps.q (v := .bool (y116 != s107)) rfl rfl (by decide) (q_neqB Try.underlying4 rfl rfl) ?_
                            refine GoOps.nil ?_
                            rcases bor (y116 != s107) with hc117 | hc117
                            · have h := h.1 hc117
                              refine Go.condT (btT rfl hc117) ?_
                              refine Go.seq ?_
                              refine Go.region rfl ?_
                              refine GoOps.q (v := .bool false) rfl rfl (by decide) (q_assign rfl) ?_
                              refine GoOps.nil ?_
                              exact Go.ret ⟨.inl rfl, _, _, DOk.nil, (resOk1 Try.results6 rfl), ⟨_, rfl, h⟩⟩
                            · have h := h.2 hc117
                              refine Go.condF (btF rfl hc117) ?_
                              refine Go.skip ?_
                              refine Go.seq ?_
                              refine Go.draw mixed ?_
                              refine plan_pure (i := 0) (d := 115) (S2 := 1) (v := .bool s107) rfl (by decide +kernel) rfl (q_move rfl) ?_
                              refine plan_pure (i := 1) (d := 116) (S2 := 3) (v := .bool s107) rfl (by decide +kernel) rfl (q_move rfl) ?_
                              refine join_plan 2047 [8, 6, 4] (fun ρ (s119 : Bool) => ρ 0 = .int .i64 p0 ∧ ρ 1 = .int .i64 p1 ∧ ρ 3 = Sl.v p3 ∧ ρ 9 = .pointer y5 ∧ ρ 10 = Sl.v r35 ∧ ρ 12 = Sl.v s54.1 ∧ ρ 13 = .int .i64 s54.2 ∧ ρ 14 = .pointer (some a63) ∧ ρ 125 = .bool s119) h ?_ ?_ <;> clear h
                              · intro s119 H121 ρ h hE
                                obtain ⟨e122_0, e122_1, e122_3, e122_9, e122_10, e122_12, e122_13, e122_14, e122_125⟩ := hE
                                refine plan_done (by decide +kernel) ?_
                                rcases bor s119 with hc123 | hc123
                                · have h := h.1 hc123
                                  refine Go.condT (btT e122_125 hc123) ?_
                                  refine Go.seq ?_
                                  refine Go.region rfl ?_
                                  refine GoOps.q (v := Sl.v r35) rfl rfl (by decide) (q_move e122_10) ?_
                                  refine GoOps.q (v := .pointer (some (a63.add 1))) rfl rfl (by decide) (q_fieldAddr foff55_1 e122_14) ?_
                                  obtain ⟨x124, hx125, h⟩ := h
                                  refine GoOps.q (v := .int .i64 x124) rfl rfl (by decide) (q_load scalar3 rfl hx125) ?_
                                  refine GoOps.q (v := .pointer (some (a63.add 2))) rfl rfl (by decide) (q_fieldAddr foff55_2 e122_14) ?_
                                  obtain ⟨x126, hx127, h⟩ := h
                                  refine GoOps.q (v := .int .i64 x126) rfl rfl (by decide) (q_load scalar3 rfl hx127) ?_
                                  obtain ⟨a128, ha129, h⟩ := h
                                  refine GoOps.q (v := .pointer (some a128)) rfl rfl (by decide) (q_idx slice31 ha129 rfl rfl) ?_
                                  obtain ⟨q131b, q131o, q131c, q131e, hq131a, hq131b, hq131l, hq131v, h⟩ := h
                                  refine op_none rfl rfl (do_store (vs := [.int .i64 x126]) size3 (pta rfl hq131a) rfl rfl rfl hq131v hq131b hq131l ?_) 
                                  refine GoOps.nil ?_
                                  refine Go.region rfl ?_
                                  refine GoOps.q (v := Sl.v s54.1) rfl rfl (by decide) (q_move e122_12) ?_
                                  refine GoOps.q (v := .pointer (some (a63.add 1))) rfl rfl (by decide) (q_fieldAddr foff55_1 e122_14) ?_
                                  obtain ⟨x132, hx133, h⟩ := h
                                  refine GoOps.q (v := .int .i64 x132) rfl rfl (by decide) (q_load scalar3 rfl hx133) ?_
                                  refine GoOps.q (v := .int .i64 p1) rfl rfl (by decide) (q_move e122_1) ?_
                                  obtain ⟨hn134, h⟩ := h
                                  refine GoOps.q (v := .int .i64 (IntKind.wrap .i64 (Int.tdiv x132 p1))) rfl rfl (by decide) (q_quo hn134 rfl rfl) ?_
                                  obtain ⟨a135, ha136, h⟩ := h
                                  refine GoOps.q (v := .pointer (some a135)) rfl rfl (by decide) (q_idx slice53 ha136 rfl rfl) ?_
                                  obtain ⟨q138b, q138o, q138c, q138e, hq138a, hq138b, hq138l, hq138v, h⟩ := h
                                  refine op_none rfl rfl (do_store (vs := [.bool true]) size4 (pta rfl hq138a) rfl rfl rfl hq138v hq138b hq138l ?_) 
                                  refine GoOps.nil ?_
                                  refine Go.inBlock ?_
                                  exact hj76 _ _ _ h ⟨e122_0, e122_1, e122_3, e122_9, e122_10, e122_12, e122_13⟩
                                · have h := h.2 hc123
                                  refine Go.condF (btF e122_125 hc123) ?_
                                  refine Go.skip ?_
                                  refine Go.inBlock ?_
                                  exact hj76 _ _ _ h ⟨e122_0, e122_1, e122_3, e122_9, e122_10, e122_12, e122_13⟩
                              · intro j120 hj120 h
                                rcases bor s107 with hc118 | hc118
                                · have h := h.1 hc118
                                  refine plan_pure (i := 2) (d := 117) (S2 := 7) (v := Sl.v r35) rfl (by decide +kernel) (want_yes rfl rfl rfl hc118) (q_move e110_10) ?_
                                  refine plan_pure (i := 3) (d := 118) (S2 := 15) (v := .pointer (some (a63.add 1))) rfl (by decide +kernel) (want_yes rfl rfl rfl hc118) (q_fieldAddr foff55_1 e110_14) ?_
                                  obtain ⟨x139, hx140, h⟩ := h
                                  refine plan_load (i := 4) (d := 119) (S2 := 31) (v := .int .i64 x139) rfl (by decide +kernel) (want_yes rfl rfl rfl hc118) (q_load scalar3 rfl hx140) ?_
                                  obtain ⟨a141, ha142, h⟩ := h
                                  refine plan_pure (i := 5) (d := 120) (S2 := 63) (v := .pointer (some a141)) rfl (by decide +kernel) (want_yes rfl rfl rfl hc118) (q_idx slice31 ha142 rfl rfl) ?_
                                  obtain ⟨x143, hx144, h⟩ := h
                                  refine plan_load (i := 6) (d := 121) (S2 := 127) (v := .int .i64 x143) rfl (by decide +kernel) (want_yes rfl rfl rfl hc118) (q_load scalar3 rfl hx144) ?_
                                  refine plan_pure (i := 7) (d := 122) (S2 := 255) (v := .pointer (some (a63.add 2))) rfl (by decide +kernel) (want_yes rfl rfl rfl hc118) (q_fieldAddr foff55_2 e110_14) ?_
                                  obtain ⟨x145, hx146, h⟩ := h
                                  refine plan_load (i := 8) (d := 123) (S2 := 511) (v := .int .i64 x145) rfl (by decide +kernel) (want_yes rfl rfl rfl hc118) (q_load scalar3 rfl hx146) ?_
                                  refine plan_pure (i := 9) (d := 124) (S2 := 1023) (v := .bool (x143 != x145)) rfl (by decide +kernel) (want_yes rfl rfl rfl hc118) (q_neq rfl rfl) ?_
                                  refine plan_pure (i := 10) (d := 125) (S2 := 2047) (v := .bool (x143 != x145)) rfl (by decide +kernel) rfl (q_pickT (btT rfl hc118) rfl) ?_
                                  exact hj120 _ _ _ h ⟨e110_0, e110_1, e110_3, e110_9, e110_10, e110_12, e110_13, e110_14, rfl⟩
                                · have h := h.2 hc118
                                  refine plan_skip (i := 2) (d := 117) (S2 := 7) rfl (by decide +kernel) (want_no rfl rfl rfl hc118) ?_
                                  refine plan_skip (i := 3) (d := 118) (S2 := 15) rfl (by decide +kernel) (want_no rfl rfl rfl hc118) ?_
                                  refine plan_skip (i := 4) (d := 119) (S2 := 31) rfl (by decide +kernel) (want_no rfl rfl rfl hc118) ?_
                                  refine plan_skip (i := 5) (d := 120) (S2 := 63) rfl (by decide +kernel) (want_no rfl rfl rfl hc118) ?_
                                  refine plan_skip (i := 6) (d := 121) (S2 := 127) rfl (by decide +kernel) (want_no rfl rfl rfl hc118) ?_
                                  refine plan_skip (i := 7) (d := 122) (S2 := 255) rfl (by decide +kernel) (want_no rfl rfl rfl hc118) ?_
                                  refine plan_skip (i := 8) (d := 123) (S2 := 511) rfl (by decide +kernel) (want_no rfl rfl rfl hc118) ?_
                                  refine plan_skip (i := 9) (d := 124) (S2 := 1023) rfl (by decide +kernel) (want_no rfl rfl rfl hc118) ?_
                                  refine plan_pure (i := 10) (d := 125) (S2 := 2047) (v := .bool false) rfl (by decide +kernel) rfl (q_pickF (btF rfl hc118) rfl) ?_
                                  refine plan_weaken (L2 := [8, 6, 4]) (by decide) ?_
                                  exact hj120 _ _ _ h ⟨e110_0, e110_1, e110_3, e110_9, e110_10, e110_12, e110_13, e110_14, rfl⟩
                          · intro j108 hj108 h
                            rcases bor (decide (0 ≤ x104)) with hc106 | hc106
                            · have h := h.1 hc106
                              refine GoOps.q (v := .pointer (some (a63.add 1))) (want_yes rfl rfl rfl hc106) rfl (by decide) (q_fieldAddr foff55_1 rfl) ?_
                              obtain ⟨x147, hx148, h⟩ := h
                              refine GoOps.q (v := .int .i64 x147) (want_yes rfl rfl rfl hc106) rfl (by decide) (q_load scalar3 rfl hx148) ?_
                              refine GoOps.q (v := .int .i64 p0) (want_yes rfl rfl rfl hc106) rfl (by decide) (q_move e56_0) ?_
                              refine GoOps.q (v := .bool (decide (x147 < p0))) (want_yes rfl rfl rfl hc106) rfl (by decide) (q_lss rfl rfl) ?_
                              refine GoOps.q (v := .bool (decide (x147 < p0))) rfl rfl (by decide) (q_pickT (btT rfl hc106) rfl) ?_
                              exact hj108 (decide (x147 < p0)) _ _ h (by exact ⟨e56_0, e56_1, e56_3, e56_9, e56_10, e56_12, e56_13, rfl, rfl⟩)
                            · have h := h.2 hc106
                              refine no_dst (want_no rfl rfl rfl hc106) rfl (by decide) ?_
                              refine no_dst (want_no rfl rfl rfl hc106) rfl (by decide) ?_
                              refine no_dst (want_no rfl rfl rfl hc106) rfl (by decide) ?_
                              refine no_dst (want_no rfl rfl rfl hc106) rfl (by decide) ?_
                              refine GoOps.q (v := .bool false) rfl rfl (by decide) (q_pickF (btF rfl hc106) rfl) ?_
                              exact hj108 false _ _ h (by exact ⟨e56_0, e56_1, e56_3, e56_9, e56_10, e56_12, e56_13, rfl, rfl⟩)
                        · have h := h.2 hc103
                          refine Go.condF (btF rfl hc103) ?_
                          refine Go.seq ?_
                          refine Go.region rfl ?_
                          refine GoOps.q (v := .bool (x73 == 2)) rfl rfl (by decide) (q_eql rfl rfl) ?_
                          refine GoOps.q (v := .bool (x73 == 2)) rfl rfl (by decide) (q_assign rfl) ?_
                          refine GoOps.nil ?_
                          rcases bor (x73 == 2) with hc149 | hc149
                          · have h := h.1 hc149
                            refine Go.condT (btT rfl hc149) ?_
                            refine Go.seq ?_
                            refine Go.region rfl ?_
                            refine GoOps.q (v := .pointer (some (a63.add 1))) rfl rfl (by decide) (q_fieldAddr foff55_1 rfl) ?_
                            obtain ⟨x150, hx151, h⟩ := h
                            refine GoOps.q (v := .int .i64 x150) rfl rfl (by decide) (q_load scalar3 rfl hx151) ?_
                            refine GoOps.q (v := .bool (decide (0 ≤ x150))) rfl rfl (by decide) (q_geq rfl rfl) ?_
                            refine GoOps.q (v := .bool (decide (0 ≤ x150))) rfl rfl (by decide) (q_move rfl) ?_
                            refine join_ops 6 (fun ρ (s153 : Bool) => ρ 0 = .int .i64 p0 ∧ ρ 1 = .int .i64 p1 ∧ ρ 3 = Sl.v p3 ∧ ρ 9 = .pointer y5 ∧ ρ 10 = Sl.v r35 ∧ ρ 12 = Sl.v s54.1 ∧ ρ 13 = .int .i64 s54.2 ∧ ρ 14 = .pointer (some a63) ∧ ρ 149 = .bool s153) h ?_ ?_ <;> clear h
                            · intro s153 H155 ρ h hE
                              obtain ⟨e156_0, e156_1, e156_3, e156_9, e156_10, e156_12, e156_13, e156_14, e156_149⟩ := hE
                              refine GoOps.q (v := .bool s153) rfl rfl (by decide) (q_move e156_149) ?_
                              refine join_ops 17 (fun ρ (s158 : Bool) => ρ 0 = .int .i64 p0 ∧ ρ 1 = .int .i64 p1 ∧ ρ 3 = Sl.v p3 ∧ ρ 9 = .pointer y5 ∧ ρ 10 = Sl.v r35 ∧ ρ 12 = Sl.v s54.1 ∧ ρ 13 = .int .i64 s54.2 ∧ ρ 14 = .pointer (some a63) ∧ ρ 167 = .bool s158) h ?_ ?_ <;> clear h
                              · intro s158 H160 ρ h hE
                                obtain ⟨e161_0, e161_1, e161_3, e161_9, e161_10, e161_12, e161_13, e161_14, e161_167⟩ := hE
                                refine GoOps.q (v := .bool s158) rfl rfl (by decide) (q_assign e161_167) ?_
                                refine GoOps.nil ?_
                                refine Go.seq ?_
                                refine Go.seq ?_
                                refine Go.region rfl ?_
                                refine GoOps.q (v := .pointer y5) rfl rfl (by decide) (q_move e161_9) ?_
                                refine GoOps.q (v := .pointer (some (a63.add 1))) rfl rfl (by decide) (q_fieldAddr foff55_1 e161_14) ?_
                                obtain ⟨x162, hx163, h⟩ := h
                                refine GoOps.q (v := .int .i64 x162) rfl rfl (by decide) (q_load scalar3 rfl hx163) ?_
                                refine GoOps.q (v := .pointer (some (a63.add 3))) rfl rfl (by decide) (q_fieldAddr foff55_3 e161_14) ?_
                                obtain ⟨x164, hx165, h⟩ := h
                                refine GoOps.q (v := Sl.v x164) rfl rfl (by decide) (q_load scalar31 rfl hx165) ?_
                                refine call_dst rfl (by decide) body26 (paged_Paged_int_Load_s _ _ _ _ _ h) rfl ?_
                                rintro _ H166 ⟨y167, rfl, h⟩
                                refine GoOps.q (v := .bool s158) rfl rfl (by decide) (q_move rfl) ?_
                                refine GoOps.q (v := .bool (y167 != s158)) rfl rfl (by decide) (q_neqB Try.underlying4 rfl rfl) ?_
                                refine GoOps.nil ?_
                                rcases bor (y167 != s158) with hc168 | hc168
                                · have h := h.1 hc168
                                  refine Go.condT (btT rfl hc168) ?_
                                  refine Go.seq ?_
                                  refine Go.region rfl ?_
                                  refine GoOps.q (v := .bool false) rfl rfl (by decide) (q_assign rfl) ?_
                                  refine GoOps.nil ?_
                                  exact Go.ret ⟨.inl rfl, _, _, DOk.nil, (resOk1 Try.results6 rfl), ⟨_, rfl, h⟩⟩
                                · have h := h.2 hc168
                                  refine Go.condF (btF rfl hc168) ?_
                                  refine Go.skip ?_
                                  refine Go.seq ?_
                                  refine Go.region rfl ?_
                                  refine GoOps.q (v := .bool s158) rfl rfl (by decide) (q_move rfl) ?_
                                  refine GoOps.nil ?_
                                  rcases bor s158 with hc169 | hc169
                                  · have h := h.1 hc169
                                    refine Go.condT (btT rfl hc169) ?_
                                    refine Go.seq ?_
                                    refine Go.draw mixed ?_
                                    refine plan_pure (i := 0) (d := 177) (S2 := 1) (v := Sl.v r35) rfl (by decide +kernel) rfl (q_move e161_10) ?_
                                    refine plan_pure (i := 1) (d := 178) (S2 := 3) (v := .pointer (some (a63.add 1))) rfl (by decide +kernel) rfl (q_fieldAddr foff55_1 e161_14) ?_
                                    obtain ⟨x170, hx171, h⟩ := h
                                    refine plan_load (i := 2) (d := 179) (S2 := 7) (v := .int .i64 x170) rfl (by decide +kernel) rfl (q_load scalar3 rfl hx171) ?_
                                    refine plan_pure (i := 3) (d := 180) (S2 := 15) (v := .int .i64 p1) rfl (by decide +kernel) rfl (q_move e161_1) ?_
                                    refine plan_pure (i := 4) (d := 181) (S2 := 31) (v := .int .i64 (IntKind.wrap .i64 (x170 * p1))) rfl (by decide +kernel) rfl (q_mul rfl rfl) ?_
                                    obtain ⟨r173, hm172, h⟩ := h
                                    refine plan_pure (i := 5) (d := 182) (S2 := 63) (v := Sl.v r173) rfl (by decide +kernel) rfl (q_cut slice31 hm172 rfl ⟨_, rfl⟩ rfl) ?_
                                    refine plan_pure (i := 6) (d := 183) (S2 := 127) (v := .pointer (some (a63.add 3))) rfl (by decide +kernel) rfl (q_fieldAddr foff55_3 e161_14) ?_
                                    obtain ⟨x174, hx175, h⟩ := h
                                    refine plan_load (i := 7) (d := 184) (S2 := 255) (v := Sl.v x174) rfl (by decide +kernel) rfl (q_load scalar31 rfl hx175) ?_
                                    refine plan_one (j := 8) (S2 := 511) (by decide +kernel) rfl (by decide) rfl ?_
                                    refine do_copy slice31 rfl rfl h fun x176 H177 h => ?_
                                    refine ⟨_, (.inl ⟨⟨[8], by decide +kernel, rfl⟩, .inl ⟨⟨[4, 5, 8], by decide +kernel, rfl⟩, rfl⟩⟩), ?_⟩
                                    refine plan_done (by decide +kernel) ?_
                                    refine Go.region rfl ?_
                                    refine GoOps.q (v := Sl.v s54.1) rfl rfl (by decide) (q_move e161_12) ?_
                                    refine GoOps.q (v := .pointer (some (a63.add 1))) rfl rfl (by decide) (q_fieldAddr foff55_1 e161_14) ?_
                                    obtain ⟨x178, hx179, h⟩ := h
                                    refine GoOps.q (v := .int .i64 x178) rfl rfl (by decide) (q_load scalar3 rfl hx179) ?_
                                    obtain ⟨a180, ha181, h⟩ := h
                                    refine GoOps.q (v := .pointer (some a180)) rfl rfl (by decide) (q_idx slice53 ha181 rfl rfl) ?_
                                    obtain ⟨q183b, q183o, q183c, q183e, hq183a, hq183b, hq183l, hq183v, h⟩ := h
                                    refine op_none rfl rfl (do_store (vs := [.bool false]) size4 (pta rfl hq183a) rfl rfl rfl hq183v hq183b hq183l ?_) 
                                    refine GoOps.nil ?_
                                    refine Go.inBlock ?_
                                    exact hj76 _ _ _ h ⟨e161_0, e161_1, e161_3, e161_9, e161_10, e161_12, e161_13⟩
                                  · have h := h.2 hc169
                                    refine Go.condF (btF rfl hc169) ?_
                                    refine Go.skip ?_
                                    refine Go.inBlock ?_
                                    exact hj76 _ _ _ h ⟨e161_0, e161_1, e161_3, e161_9, e161_10, e161_12, e161_13⟩
                              · intro j159 hj159 h
                                rcases bor s153 with hc157 | hc157
                                · have h := h.1 hc157
                                  refine GoOps.q (v := .pointer (some (a63.add 3))) (want_yes rfl rfl rfl hc157) rfl (by decide) (q_fieldAddr foff55_3 e156_14) ?_
                                  obtain ⟨x184, hx185, h⟩ := h
                                  refine GoOps.q (v := Sl.v x184) (want_yes rfl rfl rfl hc157) rfl (by decide) (q_load scalar31 rfl hx185) ?_
                                  refine GoOps.q (v := .int .i64 (x184.len : Int)) (want_yes rfl rfl rfl hc157) rfl (by decide) (q_len Try.underlying31 rfl (ls1 rfl)) ?_
                                  refine GoOps.q (v := .pointer (some (a63.add 1))) (want_yes rfl rfl rfl hc157) rfl (by decide) (q_fieldAddr foff55_1 e156_14) ?_
                                  obtain ⟨x186, hx187, h⟩ := h
                                  refine GoOps.q (v := .int .i64 x186) (want_yes rfl rfl rfl hc157) rfl (by decide) (q_load scalar3 rfl hx187) ?_
                                  refine GoOps.q (v := .int .i64 (IntKind.wrap .i64 (x186 + 1))) (want_yes rfl rfl rfl hc157) rfl (by decide) (q_add rfl rfl) ?_
                                  refine GoOps.q (v := .int .i64 p1) (want_yes rfl rfl rfl hc157) rfl (by decide) (q_move e156_1) ?_
                                  refine GoOps.q (v := .int .i64 (IntKind.wrap .i64 ((IntKind.wrap .i64 (x186 + 1)) * p1))) (want_yes rfl rfl rfl hc157) rfl (by decide) (q_mul rfl rfl) ?_
                                  refine GoOps.q (v := .int .i64 p0) (want_yes rfl rfl rfl hc157) rfl (by decide) (q_move e156_0) ?_
                                  refine GoOps.q (v := .int .i64 (if p0 < (IntKind.wrap .i64 ((IntKind.wrap .i64 (x186 + 1)) * p1)) then p0 else (IntKind.wrap .i64 ((IntKind.wrap .i64 (x186 + 1)) * p1)))) (want_yes rfl rfl rfl hc157) rfl (by decide) (q_min2 rfl) ?_
                                  refine GoOps.q (v := .pointer (some (a63.add 1))) (want_yes rfl rfl rfl hc157) rfl (by decide) (q_fieldAddr foff55_1 e156_14) ?_
                                  obtain ⟨x188, hx189, h⟩ := h
                                  refine GoOps.q (v := .int .i64 x188) (want_yes rfl rfl rfl hc157) rfl (by decide) (q_load scalar3 rfl hx189) ?_
                                  refine GoOps.q (v := .int .i64 p1) (want_yes rfl rfl rfl hc157) rfl (by decide) (q_move e156_1) ?_
                                  refine GoOps.q (v := .int .i64 (IntKind.wrap .i64 (x188 * p1))) (want_yes rfl rfl rfl hc157) rfl (by decide) (q_mul rfl rfl) ?_
                                  refine GoOps.q (v := .int .i64 (IntKind.wrap .i64 ((if p0 < (IntKind.wrap .i64 ((IntKind.wrap .i64 (x186 + 1)) * p1)) then p0 else (IntKind.wrap .i64 ((IntKind.wrap .i64 (x186 + 1)) * p1))) - (IntKind.wrap .i64 (x188 * p1))))) (want_yes rfl rfl rfl hc157) rfl (by decide) (q_sub rfl rfl) ?_
                                  refine GoOps.q (v := .bool ((x184.len : Int) == (IntKind.wrap .i64 ((if p0 < (IntKind.wrap .i64 ((IntKind.wrap .i64 (x186 + 1)) * p1)) then p0 else (IntKind.wrap .i64 ((IntKind.wrap .i64 (x186 + 1)) * p1))) - (IntKind.wrap .i64 (x188 * p1)))))) (want_yes rfl rfl rfl hc157) rfl (by decide) (q_eql rfl rfl) ?_
                                  refine GoOps.q (v := .bool ((x184.len : Int) == (IntKind.wrap .i64 ((if p0 < (IntKind.wrap .i64 ((IntKind.wrap .i64 (x186 + 1)) * p1)) then p0 else (IntKind.wrap .i64 ((IntKind.wrap .i64 (x186 + 1)) * p1))) - (IntKind.wrap .i64 (x188 * p1)))))) rfl rfl (by decide) (q_pickT (btT rfl hc157) rfl) ?_
                                  exact hj159 ((x184.len : Int) == (IntKind.wrap .i64 ((if p0 < (IntKind.wrap .i64 ((IntKind.wrap .i64 (x186 + 1)) * p1)) then p0 else (IntKind.wrap .i64 ((IntKind.wrap .i64 (x186 + 1)) * p1))) - (IntKind.wrap .i64 (x188 * p1))))) _ _ h (by exact ⟨e156_0, e156_1, e156_3, e156_9, e156_10, e156_12, e156_13, e156_14, rfl⟩)
                                · have h := h.2 hc157
                                  refine no_dst (want_no rfl rfl rfl hc157) rfl (by decide) ?_
                                  refine no_dst (want_no rfl rfl rfl hc157) rfl (by decide) ?_
                                  refine no_dst (want_no rfl rfl rfl hc157) rfl (by decide) ?_
                                  refine no_dst (want_no rfl rfl rfl hc157) rfl (by decide) ?_
                                  refine no_dst (want_no rfl rfl rfl hc157) rfl (by decide) ?_
                                  refine no_dst (want_no rfl rfl rfl hc157) rfl (by decide) ?_
                                  refine no_dst (want_no rfl rfl rfl hc157) rfl (by decide) ?_
                                  refine no_dst (want_no rfl rfl rfl hc157) rfl (by decide) ?_
                                  refine no_dst (want_no rfl rfl rfl hc157) rfl (by decide) ?_
                                  refine no_dst (want_no rfl rfl rfl hc157) rfl (by decide) ?_
                                  refine no_dst (want_no rfl rfl rfl hc157) rfl (by decide) ?_
                                  refine no_dst (want_no rfl rfl rfl hc157) rfl (by decide) ?_
                                  refine no_dst (want_no rfl rfl rfl hc157) rfl (by decide) ?_
                                  refine no_dst (want_no rfl rfl rfl hc157) rfl (by decide) ?_
                                  refine no_dst (want_no rfl rfl rfl hc157) rfl (by decide) ?_
                                  refine no_dst (want_no rfl rfl rfl hc157) rfl (by decide) ?_
                                  refine GoOps.q (v := .bool false) rfl rfl (by decide) (q_pickF (btF rfl hc157) rfl) ?_
                                  exact hj159 false _ _ h (by exact ⟨e156_0, e156_1, e156_3, e156_9, e156_10, e156_12, e156_13, e156_14, rfl⟩)
                            · intro j154 hj154 h
                              rcases bor (decide (0 ≤ x150)) with hc152 | hc152
                              · have h := h.1 hc152
                                refine GoOps.q (v := .pointer (some (a63.add 1))) (want_yes rfl rfl rfl hc152) rfl (by decide) (q_fieldAddr foff55_1 rfl) ?_
                                obtain ⟨x190, hx191, h⟩ := h
                                refine GoOps.q (v := .int .i64 x190) (want_yes rfl rfl rfl hc152) rfl (by decide) (q_load scalar3 rfl hx191) ?_
                                refine GoOps.q (v := Sl.v s54.1) (want_yes rfl rfl rfl hc152) rfl (by decide) (q_move e56_12) ?_
                                refine GoOps.q (v := .int .i64 (s54.1.len : Int)) (want_yes rfl rfl rfl hc152) rfl (by decide) (q_len Try.underlying53 rfl (ls1 rfl)) ?_
                                refine GoOps.q (v := .bool (decide (x190 < (s54.1.len : Int)))) (want_yes rfl rfl rfl hc152) rfl (by decide) (q_lss rfl rfl) ?_
                                refine GoOps.q (v := .bool (decide (x190 < (s54.1.len : Int)))) rfl rfl (by decide) (q_pickT (btT rfl hc152) rfl) ?_
                                exact hj154 (decide (x190 < (s54.1.len : Int))) _ _ h (by exact ⟨e56_0, e56_1, e56_3, e56_9, e56_10, e56_12, e56_13, rfl, rfl⟩)
                              · have h := h.2 hc152
                                refine no_dst (want_no rfl rfl rfl hc152) rfl (by decide) ?_
                                refine no_dst (want_no rfl rfl rfl hc152) rfl (by decide) ?_
                                refine no_dst (want_no rfl rfl rfl hc152) rfl (by decide) ?_
                                refine no_dst (want_no rfl rfl rfl hc152) rfl (by decide) ?_
                                refine no_dst (want_no rfl rfl rfl hc152) rfl (by decide) ?_
                                refine GoOps.q (v := .bool false) rfl rfl (by decide) (q_pickF (btF rfl hc152) rfl) ?_
                                exact hj154 false _ _ h (by exact ⟨e56_0, e56_1, e56_3, e56_9, e56_10, e56_12, e56_13, rfl, rfl⟩)
                          · have h := h.2 hc149
                            refine Go.condF (btF rfl hc149) ?_
                            refine Go.seq ?_
                            refine Go.region rfl ?_
                            refine GoOps.q (v := .bool (x73 == 3)) rfl rfl (by decide) (q_eql rfl rfl) ?_
                            refine GoOps.q (v := .bool (x73 == 3)) rfl rfl (by decide) (q_assign rfl) ?_
                            refine GoOps.nil ?_
                            rcases bor (x73 == 3) with hc192 | hc192
                            · have h := h.1 hc192
                              refine Go.condT (btT rfl hc192) ?_
                              refine Go.seq ?_
                              refine Go.region rfl ?_
                              refine GoOps.q (v := .pointer y5) rfl rfl (by decide) (q_move e56_9) ?_
                              refine call_dst rfl (by decide) body11 (paged_Paged_int_Clean_s _ _ _ h) rfl ?_
                              rintro _ H193 ⟨rfl, h⟩
                              refine GoOps.nil ?_
                              refine Go.region rfl ?_
                              refine GoOps.q (v := Sl.v s54.1) rfl rfl (by decide) (q_move e56_12) ?_
                              refine GoOps.q (v := .int .i64 (s54.1.len : Int)) rfl rfl (by decide) (q_len Try.underlying53 rfl (ls1 rfl)) ?_
                              obtain ⟨hm197, h⟩ := h
                              refine op_dst rfl rfl (by decide) (do_mk (zs := [.bool false]) slice53 bytes4 (by decide) zero4 rfl rfl (by decide) rfl rfl hm197 fun r194 H195 hb196 => ?_) 
                              have h := h r194 H195 hb196
                              refine GoOps.q (v := Sl.v r194) rfl rfl (by decide) (q_assign rfl) ?_
                              refine GoOps.nil ?_
                              refine Go.inBlock ?_
                              exact hj76 _ _ _ h ⟨e56_0, e56_1, e56_3, e56_9, e56_10, rfl, e56_13⟩
                            · have h := h.2 hc192
                              refine Go.condF (btF rfl hc192) ?_
                              refine Go.seq ?_
                              refine Go.region rfl ?_
                              refine GoOps.q (v := .bool (x73 == 4)) rfl rfl (by decide) (q_eql rfl rfl) ?_
                              refine GoOps.q (v := .bool (x73 == 4)) rfl rfl (by decide) (q_assign rfl) ?_
                              refine GoOps.nil ?_
                              rcases bor (x73 == 4) with hc198 | hc198
                              · have h := h.1 hc198
                                refine Go.condT (btT rfl hc198) ?_
                                refine Go.seq ?_
                                refine Go.region rfl ?_
                                refine GoOps.q (v := .pointer y5) rfl rfl (by decide) (q_move e56_9) ?_
                                refine GoOps.q (v := .pointer (some (a63.add 1))) rfl rfl (by decide) (q_fieldAddr foff55_1 rfl) ?_
                                obtain ⟨x199, hx200, h⟩ := h
                                refine GoOps.q (v := .int .i64 x199) rfl rfl (by decide) (q_load scalar3 rfl hx200) ?_
                                refine call_dst rfl (by decide) body17 (paged_Paged_int_Get_s _ _ _ _ h) rfl ?_
                                rintro _ H201 ⟨y202, y203, rfl, h⟩
                                refine GoOps.q (v := .tuple #[.int .i64 y202, .bool y203]) rfl rfl (by decide) (q_move rfl) ?_
                                refine GoOps.q (v := .int .i64 y202) rfl rfl (by decide) (q_extract rfl rfl) ?_
                                refine GoOps.q (v := .bool y203) rfl rfl (by decide) (q_extract rfl rfl) ?_
                                refine GoOps.q (v := .int .i64 y202) rfl rfl (by decide) (q_assign rfl) ?_
                                refine GoOps.q (v := .bool y203) rfl rfl (by decide) (q_assign rfl) ?_
                                refine GoOps.nil ?_
                                refine Go.seq ?_
                                refine Go.region rfl ?_
                                refine GoOps.q (v := .pointer (some (a63.add 1))) rfl rfl (by decide) (q_fieldAddr foff55_1 rfl) ?_
                                obtain ⟨x204, hx205, h⟩ := h
                                refine GoOps.q (v := .int .i64 x204) rfl rfl (by decide) (q_load scalar3 rfl hx205) ?_
                                refine GoOps.q (v := .bool (decide (0 ≤ x204))) rfl rfl (by decide) (q_geq rfl rfl) ?_
                                refine GoOps.q (v := .bool (decide (0 ≤ x204))) rfl rfl (by decide) (q_move rfl) ?_
                                refine join_ops 5 (fun ρ (s207 : Bool) => ρ 0 = .int .i64 p0 ∧ ρ 1 = .int .i64 p1 ∧ ρ 3 = Sl.v p3 ∧ ρ 9 = .pointer y5 ∧ ρ 10 = Sl.v r35 ∧ ρ 12 = Sl.v s54.1 ∧ ρ 13 = .int .i64 s54.2 ∧ ρ 14 = .pointer (some a63) ∧ ρ 17 = .int .i64 y202 ∧ ρ 18 = .bool y203 ∧ ρ 214 = .bool s207) h ?_ ?_ <;> clear h
                                · intro s207 H209 ρ h hE
                                  obtain ⟨e210_0, e210_1, e210_3, e210_9, e210_10, e210_12, e210_13, e210_14, e210_17, e210_18, e210_214⟩ := hE
                                  refine GoOps.q (v := .bool s207) rfl rfl (by decide) (q_assign e210_214) ?_
                                  refine GoOps.nil ?_
                                  refine Go.seq ?_
                                  refine Go.region rfl ?_
                                  refine GoOps.q (v := .bool y203) rfl rfl (by decide) (q_move e210_18) ?_
                                  refine GoOps.q (v := .bool s207) rfl rfl (by decide) (q_move rfl) ?_
                                  refine GoOps.q (v := .bool (y203 != s207)) rfl rfl (by decide) (q_neqB Try.underlying4 rfl rfl) ?_
                                  refine GoOps.q (v := .bool (y203 != s207)) rfl rfl (by decide) (q_move rfl) ?_
                                  refine join_ops 11 (fun ρ (s212 : Bool) => ρ 0 = .int .i64 p0 ∧ ρ 1 = .int .i64 p1 ∧ ρ 3 = Sl.v p3 ∧ ρ 9 = .pointer y5 ∧ ρ 10 = Sl.v r35 ∧ ρ 12 = Sl.v s54.1 ∧ ρ 13 = .int .i64 s54.2 ∧ ρ 17 = .int .i64 y202 ∧ ρ 19 = .bool s207 ∧ ρ 229 = .bool s212) h ?_ ?_ <;> clear h
                                  · intro s212 H214 ρ h hE
                                    obtain ⟨e215_0, e215_1, e215_3, e215_9, e215_10, e215_12, e215_13, e215_17, e215_19, e215_229⟩ := hE
                                    refine GoOps.q (v := .bool s212) rfl rfl (by decide) (q_move e215_229) ?_
                                    refine join_ops 7 (fun ρ (s217 : Bool) => ρ 0 = .int .i64 p0 ∧ ρ 1 = .int .i64 p1 ∧ ρ 3 = Sl.v p3 ∧ ρ 9 = .pointer y5 ∧ ρ 10 = Sl.v r35 ∧ ρ 12 = Sl.v s54.1 ∧ ρ 13 = .int .i64 s54.2 ∧ ρ 237 = .bool s217) h ?_ ?_ <;> clear h
                                    · intro s217 H219 ρ h hE
                                      obtain ⟨e220_0, e220_1, e220_3, e220_9, e220_10, e220_12, e220_13, e220_237⟩ := hE
                                      refine GoOps.nil ?_
                                      rcases bor s217 with hc221 | hc221
                                      · have h := h.1 hc221
                                        refine Go.condT (btT e220_237 hc221) ?_
                                        refine Go.seq ?_
                                        refine Go.region rfl ?_
                                        refine GoOps.q (v := .bool false) rfl rfl (by decide) (q_assign rfl) ?_
                                        refine GoOps.nil ?_
                                        exact Go.ret ⟨.inl rfl, _, _, DOk.nil, (resOk1 Try.results6 rfl), ⟨_, rfl, h⟩⟩
                                      · have h := h.2 hc221
                                        refine Go.condF (btF e220_237 hc221) ?_
                                        refine Go.skip ?_
                                        refine Go.inBlock ?_
                                        exact hj76 _ _ _ h ⟨e220_0, e220_1, e220_3, e220_9, e220_10, e220_12, e220_13⟩
                                    · intro j218 hj218 h
                                      rcases bor s212 with hc216 | hc216
                                      · have h := h.1 hc216
                                        refine no_dst (want_no rfl rfl rfl hc216) rfl (by decide) ?_
                                        refine no_dst (want_no rfl rfl rfl hc216) rfl (by decide) ?_
                                        refine no_dst (want_no rfl rfl rfl hc216) rfl (by decide) ?_
                                        refine no_dst (want_undef rfl rfl rfl) rfl (by decide) ?_
                                        refine no_dst (want_undef rfl rfl rfl) rfl (by decide) ?_
                                        refine no_dst (want_no rfl rfl rfl hc216) rfl (by decide) ?_
                                        refine GoOps.q (v := .bool true) rfl rfl (by decide) (q_pickT (btT rfl hc216) rfl) ?_
                                        exact hj218 true _ _ h (by exact ⟨e215_0, e215_1, e215_3, e215_9, e215_10, e215_12, e215_13, rfl⟩)
                                      · have h := h.2 hc216
                                        refine GoOps.q (v := .bool s207) (want_yes rfl rfl rfl hc216) rfl (by decide) (q_move e215_19) ?_
                                        refine GoOps.q (v := .bool (!s207)) (want_yes rfl rfl rfl hc216) rfl (by decide) (q_not rfl) ?_
                                        refine GoOps.q (v := .bool (!s207)) (want_yes rfl rfl rfl hc216) rfl (by decide) (q_move rfl) ?_
                                        refine join_ops 3 (fun ρ (s223 : Bool) => ρ 0 = .int .i64 p0 ∧ ρ 1 = .int .i64 p1 ∧ ρ 3 = Sl.v p3 ∧ ρ 9 = .pointer y5 ∧ ρ 10 = Sl.v r35 ∧ ρ 12 = Sl.v s54.1 ∧ ρ 13 = .int .i64 s54.2 ∧ ρ 230 = .bool s212 ∧ ρ 236 = .bool s223) h ?_ ?_ <;> clear h
                                        · intro s223 H225 ρ h hE
                                          obtain ⟨e226_0, e226_1, e226_3, e226_9, e226_10, e226_12, e226_13, e226_230, e226_236⟩ := hE
                                          refine GoOps.q (v := .bool s223) rfl rfl (by decide) (q_pickF (btF e226_230 hc216) e226_236) ?_
                                          exact hj218 s223 _ _ h (by exact ⟨e226_0, e226_1, e226_3, e226_9, e226_10, e226_12, e226_13, rfl⟩)
                                        · intro j224 hj224 h
                                          rcases bor (!s207) with hc222 | hc222
                                          · have h := h.1 hc222
                                            refine GoOps.q (v := .int .i64 y202) (want_yes rfl rfl rfl hc222) rfl (by decide) (q_move e215_17) ?_
                                            refine GoOps.q (v := .bool (y202 != 0)) (want_yes rfl rfl rfl hc222) rfl (by decide) (q_neq rfl rfl) ?_
                                            refine GoOps.q (v := .bool (y202 != 0)) (want_yes rfl rfl rfl hc216) rfl (by decide) (q_pickT (btT rfl hc222) rfl) ?_
                                            exact hj224 (y202 != 0) _ _ h (by exact ⟨e215_0, e215_1, e215_3, e215_9, e215_10, e215_12, e215_13, rfl, rfl⟩)
                                          · have h := h.2 hc222
                                            refine no_dst (want_no rfl rfl rfl hc222) rfl (by decide) ?_
                                            refine no_dst (want_no rfl rfl rfl hc222) rfl (by decide) ?_
                                            refine GoOps.q (v := .bool false) (want_yes rfl rfl rfl hc216) rfl (by decide) (q_pickF (btF rfl hc222) rfl) ?_
                                            exact hj224 false _ _ h (by exact ⟨e215_0, e215_1, e215_3, e215_9, e215_10, e215_12, e215_13, rfl, rfl⟩)
                                  · intro j213 hj213 h
                                    rcases bor (y203 != s207) with hc211 | hc211
                                    · have h := h.1 hc211
                                      refine no_dst (want_no rfl rfl rfl hc211) rfl (by decide) ?_
                                      refine no_dst (want_no rfl rfl rfl hc211) rfl (by decide) ?_
                                      refine no_dst (want_undef rfl rfl rfl) rfl (by decide) ?_
                                      refine no_dst (want_undef rfl rfl rfl) rfl (by decide) ?_
                                      refine no_dst (want_undef rfl rfl rfl) rfl (by decide) ?_
                                      refine no_dst (want_undef rfl rfl rfl) rfl (by decide) ?_
                                      refine no_dst (want_undef rfl rfl rfl) rfl (by decide) ?_
                                      refine no_dst (want_undef rfl rfl rfl) rfl (by decide) ?_
                                      refine no_dst (want_undef rfl rfl rfl) rfl (by decide) ?_
                                      refine no_dst (want_no rfl rfl rfl hc211) rfl (by decide) ?_
                                      refine GoOps.q (v := .bool true) rfl rfl (by decide) (q_pickT (btT rfl hc211) rfl) ?_
                                      exact hj213 true _ _ h (by exact ⟨e210_0, e210_1, e210_3, e210_9, e210_10, e210_12, e210_13, e210_17, rfl, rfl⟩)
                                    · have h := h.2 hc211
                                      refine GoOps.q (v := .bool s207) (want_yes rfl rfl rfl hc211) rfl (by decide) (q_move rfl) ?_
                                      refine GoOps.q (v := .bool s207) (want_yes rfl rfl rfl hc211) rfl (by decide) (q_move rfl) ?_
                                      refine join_ops 8 (fun ρ (s228 : Bool) => ρ 0 = .int .i64 p0 ∧ ρ 1 = .int .i64 p1 ∧ ρ 3 = Sl.v p3 ∧ ρ 9 = .pointer y5 ∧ ρ 10 = Sl.v r35 ∧ ρ 12 = Sl.v s54.1 ∧ ρ 13 = .int .i64 s54.2 ∧ ρ 17 = .int .i64 y202 ∧ ρ 19 = .bool s207 ∧ ρ 218 = .bool (y203 != s207) ∧ ρ 228 = .bool s228) h ?_ ?_ <;> clear h
                                      · intro s228 H230 ρ h hE
                                        obtain ⟨e231_0, e231_1, e231_3, e231_9, e231_10, e231_12, e231_13, e231_17, e231_19, e231_218, e231_228⟩ := hE
                                        refine GoOps.q (v := .bool s228) rfl rfl (by decide) (q_pickF (btF e231_218 hc211) e231_228) ?_
                                        exact hj213 s228 _ _ h (by exact ⟨e231_0, e231_1, e231_3, e231_9, e231_10, e231_12, e231_13, e231_17, e231_19, rfl⟩)
                                      · intro j229 hj229 h
                                        rcases bor s207 with hc227 | hc227
                                        · have h := h.1 hc227
                                          refine GoOps.q (v := .int .i64 y202) (want_yes rfl rfl rfl hc227) rfl (by decide) (q_move e210_17) ?_
                                          refine GoOps.q (v := Sl.v r35) (want_yes rfl rfl rfl hc227) rfl (by decide) (q_move e210_10) ?_
                                          refine GoOps.q (v := .pointer (some (a63.add 1))) (want_yes rfl rfl rfl hc227) rfl (by decide) (q_fieldAddr foff55_1 e210_14) ?_
                                          obtain ⟨x232, hx233, h⟩ := h
                                          refine GoOps.q (v := .int .i64 x232) (want_yes rfl rfl rfl hc227) rfl (by decide) (q_load scalar3 rfl hx233) ?_
                                          obtain ⟨a234, ha235, h⟩ := h
                                          refine GoOps.q (v := .pointer (some a234)) (want_yes rfl rfl rfl hc227) rfl (by decide) (q_idx slice31 ha235 rfl rfl) ?_
                                          obtain ⟨x236, hx237, h⟩ := h
                                          refine GoOps.q (v := .int .i64 x236) (want_yes rfl rfl rfl hc227) rfl (by decide) (q_load scalar3 rfl hx237) ?_
                                          refine GoOps.q (v := .bool (y202 != x236)) (want_yes rfl rfl rfl hc227) rfl (by decide) (q_neq rfl rfl) ?_
                                          refine GoOps.q (v := .bool (y202 != x236)) (want_yes rfl rfl rfl hc211) rfl (by decide) (q_pickT (btT rfl hc227) rfl) ?_
                                          exact hj229 (y202 != x236) _ _ h (by exact ⟨e210_0, e210_1, e210_3, e210_9, e210_10, e210_12, e210_13, e210_17, rfl, rfl, rfl⟩)
                                        · have h := h.2 hc227
                                          refine no_dst (want_no rfl rfl rfl hc227) rfl (by decide) ?_
                                          refine no_dst (want_no rfl rfl rfl hc227) rfl (by decide) ?_
                                          refine no_dst (want_no rfl rfl rfl hc227) rfl (by decide) ?_
                                          refine no_dst (want_no rfl rfl rfl hc227) rfl (by decide) ?_
                                          refine no_dst (want_no rfl rfl rfl hc227) rfl (by decide) ?_
                                          refine no_dst (want_no rfl rfl rfl hc227) rfl (by decide) ?_
                                          refine no_dst (want_no rfl rfl rfl hc227) rfl (by decide) ?_
                                          refine GoOps.q (v := .bool false) (want_yes rfl rfl rfl hc211) rfl (by decide) (q_pickF (btF rfl hc227) rfl) ?_
                                          exact hj229 false _ _ h (by exact ⟨e210_0, e210_1, e210_3, e210_9, e210_10, e210_12, e210_13, e210_17, rfl, rfl, rfl⟩)
                                · intro j208 hj208 h
                                  rcases bor (decide (0 ≤ x204)) with hc206 | hc206
                                  · have h := h.1 hc206
                                    refine GoOps.q (v := .pointer (some (a63.add 1))) (want_yes rfl rfl rfl hc206) rfl (by decide) (q_fieldAddr foff55_1 rfl) ?_
                                    obtain ⟨x238, hx239, h⟩ := h
                                    refine GoOps.q (v := .int .i64 x238) (want_yes rfl rfl rfl hc206) rfl (by decide) (q_load scalar3 rfl hx239) ?_
                                    refine GoOps.q (v := .int .i64 p0) (want_yes rfl rfl rfl hc206) rfl (by decide) (q_move e56_0) ?_
                                    refine GoOps.q (v := .bool (decide (x238 < p0))) (want_yes rfl rfl rfl hc206) rfl (by decide) (q_lss rfl rfl) ?_
                                    refine GoOps.q (v := .bool (decide (x238 < p0))) rfl rfl (by decide) (q_pickT (btT rfl hc206) rfl) ?_
                                    exact hj208 (decide (x238 < p0)) _ _ h (by exact ⟨e56_0, e56_1, e56_3, e56_9, e56_10, e56_12, e56_13, rfl, rfl, rfl, rfl⟩)
                                  · have h := h.2 hc206
                                    refine no_dst (want_no rfl rfl rfl hc206) rfl (by decide) ?_
                                    refine no_dst (want_no rfl rfl rfl hc206) rfl (by decide) ?_
                                    refine no_dst (want_no rfl rfl rfl hc206) rfl (by decide) ?_
                                    refine no_dst (want_no rfl rfl rfl hc206) rfl (by decide) ?_
                                    refine GoOps.q (v := .bool false) rfl rfl (by decide) (q_pickF (btF rfl hc206) rfl) ?_
                                    exact hj208 false _ _ h (by exact ⟨e56_0, e56_1, e56_3, e56_9, e56_10, e56_12, e56_13, rfl, rfl, rfl, rfl⟩)
                              · have h := h.2 hc198
                                refine Go.condF (btF rfl hc198) ?_
                                refine Go.skip ?_
                                refine Go.inBlock ?_
                                exact hj76 _ _ _ h ⟨e56_0, e56_1, e56_3, e56_9, e56_10, e56_12, e56_13⟩
                  · have h := h.2 hc58
                    refine Go.condF (btF rfl hc58) ?_
                    refine Go.exit rfl ?_
                    refine Go.seq ?_
                    refine Go.region rfl ?_
                    refine GoOps.q (v := .pointer y5) rfl rfl (by decide) (q_move e56_9) ?_
                    refine call_dst rfl (by decide) body22 (keelsonlaw11_all_s _ _ _ h) rfl ?_
                    rintro _ H240 ⟨y241, y242, rfl, h⟩
                    refine GoOps.q (v := .tuple #[Sl.v y241, .bool y242]) rfl rfl (by decide) (q_move rfl) ?_
                    refine GoOps.q (v := Sl.v y241) rfl rfl (by decide) (q_extract rfl rfl) ?_
                    refine GoOps.q (v := .bool y242) rfl rfl (by decide) (q_extract rfl rfl) ?_
                    refine GoOps.q (v := Sl.v y241) rfl rfl (by decide) (q_assign rfl) ?_
                    refine GoOps.q (v := .bool y242) rfl rfl (by decide) (q_assign rfl) ?_
                    refine GoOps.nil ?_
                    refine Go.seq ?_
                    refine Go.region rfl ?_
                    refine GoOps.q (v := .bool y242) rfl rfl (by decide) (q_move rfl) ?_
                    refine GoOps.q (v := .bool y242) rfl rfl (by decide) (q_move rfl) ?_
                    refine join_ops 4 (fun ρ (s244 : Bool) => ρ 267 = .bool s244) h ?_ ?_ <;> clear h
                    · intro s244 H246 ρ h hE
                      have e247_267 := hE
                      refine GoOps.q (v := .bool s244) rfl rfl (by decide) (q_move e247_267) ?_
                      refine join_ops 2 (fun ρ (s249 : Bool) => ρ 270 = .bool s249) h ?_ ?_ <;> clear h
                      · intro s249 H251 ρ h hE
                        have e252_270 := hE
                        refine GoOps.q (v := .bool s249) rfl rfl (by decide) (q_assign e252_270) ?_
                        refine GoOps.nil ?_
                        exact Go.ret ⟨.inl rfl, _, _, DOk.nil, (resOk1 Try.results6 rfl), ⟨_, rfl, h⟩⟩
                      · intro j250 hj250 h
                        rcases bor s244 with hc248 | hc248
                        · have h := h.1 hc248
                          refine call_dst (want_yes rfl rfl rfl hc248) (by decide) body7 (keelsonlaw11_awake_s _ _ h) rfl ?_
                          rintro _ H253 ⟨y254, rfl, h⟩
                          refine GoOps.q (v := .bool y254) rfl rfl (by decide) (q_pickT (btT rfl hc248) rfl) ?_
                          exact hj250 y254 _ _ h (by exact rfl)
                        · have h := h.2 hc248
                          refine no_dst (want_no rfl rfl rfl hc248) rfl (by decide) ?_
                          refine GoOps.q (v := .bool false) rfl rfl (by decide) (q_pickF (btF rfl hc248) rfl) ?_
                          exact hj250 false _ _ h (by exact rfl)
                    · intro j245 hj245 h
                      rcases bor y242 with hc243 | hc243
                      · have h := h.1 hc243
                        refine GoOps.q (v := Sl.v y241) (want_yes rfl rfl rfl hc243) rfl (by decide) (q_move rfl) ?_
                        refine GoOps.q (v := Sl.v r35) (want_yes rfl rfl rfl hc243) rfl (by decide) (q_move e56_10) ?_
                        refine call_dst (want_yes rfl rfl rfl hc243) (by decide) body12 (keelsonalike_Ints_s _ _ _ _ h) rfl ?_
                        rintro _ H255 ⟨y256, rfl, h⟩
                        refine GoOps.q (v := .bool y256) rfl rfl (by decide) (q_pickT (btT rfl hc243) rfl) ?_
                        exact hj245 y256 _ _ h (by exact rfl)
                      · have h := h.2 hc243
                        refine no_dst (want_no rfl rfl rfl hc243) rfl (by decide) ?_
                        refine no_dst (want_no rfl rfl rfl hc243) rfl (by decide) ?_
                        refine no_dst (want_no rfl rfl rfl hc243) rfl (by decide) ?_
                        refine GoOps.q (v := .bool false) rfl rfl (by decide) (q_pickF (btF rfl hc243) rfl) ?_
                        exact hj245 false _ _ h (by exact rfl)
          · intro j28 hj28 h
            rcases bor s22 with hc26 | hc26
            · have h := h.1 hc26
              refine no_dst (want_no rfl rfl rfl hc26) rfl (by decide) ?_
              refine no_dst (want_no rfl rfl rfl hc26) rfl (by decide) ?_
              refine no_dst (want_no rfl rfl rfl hc26) rfl (by decide) ?_
              refine no_dst (want_no rfl rfl rfl hc26) rfl (by decide) ?_
              refine no_dst (want_no rfl rfl rfl hc26) rfl (by decide) ?_
              refine no_dst (want_no rfl rfl rfl hc26) rfl (by decide) ?_
              refine GoOps.q (v := .bool true) rfl rfl (by decide) (q_pickT (btT rfl hc26) rfl) ?_
              exact hj28 true _ _ h (by exact ⟨e25_0, e25_1, e25_2, e25_3, e25_9, rfl⟩)
            · have h := h.2 hc26
              refine GoOps.q (v := .pointer y5) (want_yes rfl rfl rfl hc26) rfl (by decide) (q_move e25_9) ?_
              refine call_dst (want_yes rfl rfl rfl hc26) (by decide) body20 (paged_Paged_int_Pages_s _ _ _ h) rfl ?_
              rintro _ H257 ⟨y258, rfl, h⟩
              refine GoOps.q (v := .int .i64 p0) (want_yes rfl rfl rfl hc26) rfl (by decide) (q_move e25_0) ?_
              refine GoOps.q (v := .int .i64 p1) (want_yes rfl rfl rfl hc26) rfl (by decide) (q_move e25_1) ?_
              refine call_dst (want_yes rfl rfl rfl hc26) (by decide) body25 (keelsonref1_Up_s _ _ _ _ h) rfl ?_
              rintro _ H259 ⟨y260, rfl, h⟩
              refine GoOps.q (v := .bool (y258 != y260)) (want_yes rfl rfl rfl hc26) rfl (by decide) (q_neq rfl rfl) ?_
              refine GoOps.q (v := .bool (y258 != y260)) rfl rfl (by decide) (q_pickF (btF rfl hc26) rfl) ?_
              exact hj28 (y258 != y260) _ _ h (by exact ⟨e25_0, e25_1, e25_2, e25_3, e25_9, rfl⟩)
        · intro j23 hj23 h
          rcases bor (Option.isNone y5) with hc21 | hc21
          · have h := h.1 hc21
            refine no_dst (want_no rfl rfl rfl hc21) rfl (by decide) ?_
            refine no_dst (want_no rfl rfl rfl hc21) rfl (by decide) ?_
            refine no_dst (want_no rfl rfl rfl hc21) rfl (by decide) ?_
            refine no_dst (want_no rfl rfl rfl hc21) rfl (by decide) ?_
            refine GoOps.q (v := .bool true) rfl rfl (by decide) (q_pickT (btT rfl hc21) rfl) ?_
            exact hj23 true _ _ h (by exact ⟨e12_0, e12_1, e12_2, e12_3, e12_9, rfl⟩)
          · have h := h.2 hc21
            refine GoOps.q (v := .pointer y5) (want_yes rfl rfl rfl hc21) rfl (by decide) (q_move e12_9) ?_
            refine call_dst (want_yes rfl rfl rfl hc21) (by decide) body24 (paged_Paged_int_Len_s _ _ _ h) rfl ?_
            rintro _ H261 ⟨y262, rfl, h⟩
            refine GoOps.q (v := .int .i64 p0) (want_yes rfl rfl rfl hc21) rfl (by decide) (q_move e12_0) ?_
            refine GoOps.q (v := .bool (y262 != p0)) (want_yes rfl rfl rfl hc21) rfl (by decide) (q_neq rfl rfl) ?_
            refine GoOps.q (v := .bool (y262 != p0)) rfl rfl (by decide) (q_pickF (btF rfl hc21) rfl) ?_
            exact hj23 (y262 != p0) _ _ h (by exact ⟨e12_0, e12_1, e12_2, e12_3, e12_9, rfl⟩)
    · intro j10 hj10 h
      rcases bor (!y7) with hc8 | hc8
      · have h := h.1 hc8
        refine no_dst (want_no rfl rfl rfl hc8) rfl (by decide) ?_
        refine no_dst (want_no rfl rfl rfl hc8) rfl (by decide) ?_
        refine no_dst (want_no rfl rfl rfl hc8) rfl (by decide) ?_
        refine GoOps.q (v := .bool true) rfl rfl (by decide) (q_pickT (btT rfl hc8) rfl) ?_
        exact hj10 true _ _ h (by exact ⟨rfl, rfl, rfl, rfl, rfl, rfl⟩)
      · have h := h.2 hc8
        refine GoOps.q (v := .int .i64 p1) (want_yes rfl rfl rfl hc8) rfl (by decide) (q_move rfl) ?_
        refine call_dst (want_yes rfl rfl rfl hc8) (by decide) body23 (keelsonref1_Within_s _ _ _ _ _ h) rfl ?_
        rintro _ H263 ⟨y264, rfl, h⟩
        refine GoOps.q (v := .bool (!y264)) (want_yes rfl rfl rfl hc8) rfl (by decide) (q_not rfl) ?_
        refine GoOps.q (v := .bool (!y264)) rfl rfl (by decide) (q_pickF (btF rfl hc8) rfl) ?_
        exact hj10 (!y264) _ _ h (by exact ⟨rfl, rfl, rfl, rfl, rfl, rfl⟩)


end Go.Proofs.Ytgnnfafidhfhfaa

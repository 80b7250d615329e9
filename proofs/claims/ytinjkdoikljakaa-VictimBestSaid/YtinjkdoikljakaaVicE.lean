/- victim: awake; THE LAWS VictimScores, VictimRises, VictimOrders, on formulas. -/
import Derived.Test.YtinjkdoikljakaaVicD
set_option linter.unusedVariables false
set_option linter.unusedSimpArgs false
namespace Go.Proofs.Ytinjkdoikljakaa
open Go Go.Kx

theorem awake_spec {H : PH} {Q : Bool → PH → Prop} (hQ : ∀ H', Ext H H' → Q true H') : keelsonlaw19_awake H Q := by
  have ok : CfgOk (4, 8, 24) := by simp [CfgOk]
  refine new_yes2 ok fun g H1 x1 rg _ => ?_
  have hg : Gm H1 (some g) (4, 8, 24) := ⟨g, rfl, rg⟩
  refine tnew_froz (Stars.start H1) hg ok (ul := []) ⟨rfl, Nat.le_refl _, fun i x hi => by simp at hi⟩ (.inl rfl) (fun u hu => by simp at hu) fun B a s t H4 xB r h4 => ?_
  have h4' : Stars H4 [baseO B, vecNO encU 2 s [(0, 0), (0, 0), (0, 0), (0, 0), (0, 0), (0, 0), (0, 0), (0, 0)], vecO (Value.int .i64) t [0, 0, 0, 0, 0, 0, 0, 0]] := h4
  have rx : ∀ {H' L}, Stars H' (baseO B :: L) → RowAt H' a (tabRow (some g) s t) := fun h => r.ext h.base
  have gx : ∀ {H' L}, Stars H' (baseO B :: L) → Gm H' (some g) (4, 8, 24) := fun h => hg.ext (xB.trans h.base)
  refine mJoin_intro (mIf_neg rfl (mIf_neg rfl ?_))
  refine take_spec h4' (rx h4') 1 2 rfl rfl (by decide) rfl (by decide) fun H5 h5 => ?_
  have h5' : Stars H5 [baseO B, vecNO encU 2 s [(1, 0), (0, 0), (0, 0), (0, 0), (0, 0), (0, 0), (0, 0), (0, 0)], vecO (Value.int .i64) t [0, 0, 0, 0, 0, 0, 0, 0]] := h5
  refine take_spec h5' (rx h5') 1 2 rfl rfl (by decide) rfl (by decide) fun H6 h6 => ?_
  have h6' : Stars H6 [baseO B, vecNO encU 2 s [(1, 0), (1, 0), (0, 0), (0, 0), (0, 0), (0, 0), (0, 0), (0, 0)], vecO (Value.int .i64) t [0, 0, 0, 0, 0, 0, 0, 0]] := h6
  have v6 : VecN encU 2 H6 s _ := h6'.get 1 rfl
  refine pick_spec (rx h6') (gx h6') ok (v6.listN lenU) (h6'.list 2 rfl) rfl (by decide) (by decide) (by decide) fun H7 x7 => ?_
  have h7 := h6'.ext x7
  refine seal_spec h7 (rx h7) 1 rfl fun H8 h8 => ?_
  have h8' : Stars H8 [baseO B, vecNO encU 2 s [(2, 0), (1, 0), (0, 0), (0, 0), (0, 0), (0, 0), (0, 0), (0, 0)], vecO (Value.int .i64) t [0, 0, 0, 0, 0, 0, 0, 0]] := h8
  refine seal_spec h8' (rx h8') 1 rfl fun H9 h9 => ?_
  have h9' : Stars H9 [baseO B, vecNO encU 2 s [(2, 0), (2, 0), (0, 0), (0, 0), (0, 0), (0, 0), (0, 0), (0, 0)], vecO (Value.int .i64) t [0, 0, 0, 0, 0, 0, 0, 0]] := h9
  refine seg_spec (gx h9') ok fun H10 x10 => ?_
  have h10 := h9'.ext x10
  rw [if_pos (by decide)]
  refine tadd_spec h10 (rx h10) (gx h10) ok 2 rfl rfl (by decide) (by decide) fun H11 h11 => ?_
  have h11' : Stars H11 [baseO B, vecNO encU 2 s [(2, 0), (2, 0), (0, 0), (0, 0), (0, 0), (0, 0), (0, 0), (0, 0)], vecO (Value.int .i64) t [0, 11, 0, 0, 0, 0, 0, 0]] := h11
  have v11 : VecN encU 2 H11 s _ := h11'.get 1 rfl
  refine pick_spec (rx h11') (gx h11') ok (v11.listN lenU) (h11'.list 2 rfl) rfl (by decide) (by decide) (by decide) fun H12 x12 => score_spec ?_
  have x0 : Ext H H12 := x1.trans (xB.trans (h11'.base.trans x12))
  refine mJoin_intro (mIf_pos (by decide) (score_spec (mJoin_intro (mIf_pos (by decide) (mJoin_intro (mIf_pos (by decide) (mJoin_intro (mIf_pos (by decide) (mJoin_intro (mIf_pos (by decide) ?_)))))))))
  )
  exact better_spec fun H13 x13 => mJoin_intro (mIf_pos (by decide) (better_spec fun H14 x14 => hQ H14 (x0.trans (x13.trans x14))))
section
variable {H : PH}
theorem rwithin {n low high : Int} {Q : Bool → PH → Prop} (hQ : Q (decide (low ≤ n) && decide (n ≤ high)) H) : keelsonref1_Within n low high H Q := by
  refine mJoin_intro (mIf_intro (fun c => ?_) (fun c => ?_))
  · rw [c, Bool.true_and] at hQ; exact hQ
  · rw [c, Bool.false_and] at hQ; exact hQ
theorem rscore_spec {live age room : Int} {Q : Int → PH → Prop} (hQ : Q (scoreOf live age room) H) : keelsonref11_Score live age room H Q := by
  by_cases h : scoreOk live age room
  · obtain ⟨n0, n1, n2, n3⟩ := score_num h
    rw [scoreOf, if_pos h] at hQ
    obtain ⟨⟨a1, a2⟩, ⟨a3, a4⟩, a5, a6⟩ := h
    refine rwithin (mJoin_intro (mIf_neg (by simp; omega) (rwithin ?_)))
    have e1 : (!(decide (0 ≤ live) && decide (live ≤ room))) = false := by simp; omega
    rw [e1]
    refine mJoin_intro (mIf_neg rfl (rwithin ?_))
    have e2 : (!(decide (0 ≤ age) && decide (age ≤ 2147483647))) = false := by simp; omega
    rw [e2]
    refine mIf_neg rfl ⟨by rw [wrap64_id (by omega) (by omega)]; omega, ?_⟩
    rw [wrap64_id (x := room + live) (by omega) (by omega), wrap64_id (x := room - live) (by omega) (by omega), wrap64_id (x := (room - live) * age) (by omega) (by omega), Int.tdiv_eq_ediv_of_nonneg n0, wrap64_id (by omega) (by omega)]
    exact hQ
  · rw [scoreOf, if_neg h] at hQ
    refine rwithin (mJoin_intro (mIf_intro (fun _ => mJoin_intro (mIf_pos rfl (mIf_pos rfl hQ))) (fun c1 => rwithin (mJoin_intro (mIf_intro (fun _ => mIf_pos rfl hQ) (fun c2 => rwithin (mIf_pos ?_ hQ)))))))
    simp at c1 c2 ⊢
    simp only [scoreOk] at h
    omega
theorem scores_law {p0 p1 p2 : Int} : keelsonlaw19_VictimScores p0 p1 p2 H (DoneD H) :=
  score_spec (rscore_spec (mJoin_intro (mIf_pos (by simp) (awake_spec fun H' x => ⟨rfl, x⟩))))
/-- A quotient of products, compared. -/
theorem div_le {a b c d : Int} (ha : 0 ≤ a) (hd : 0 < d) (h1 : a ≤ c) (h2 : d ≤ b) (hb : 0 < b) : a / b ≤ c / d := by
  have h3 : a / b ≤ a / d := by
    refine (Int.le_ediv_iff_mul_le hd).2 ?_
    have h4 := Int.ediv_mul_le a (show b ≠ 0 by omega)
    have h5 : a / b * d ≤ a / b * b := Int.mul_le_mul_of_nonneg_left h2 (Int.ediv_nonneg ha (by omega))
    omega
  have h6 : a / d ≤ c / d := Int.ediv_le_ediv hd h1
  omega
theorem rises_law {p0 p1 p2 p3 p4 : Int} : keelsonlaw19_VictimRises p0 p1 p2 p3 p4 H (DoneD H) := by
  have a0 := Int.emod_nonneg p2 (show (1000 : Int) ≠ 0 by decide)
  have a1 := Int.emod_lt_of_pos p2 (show (0 : Int) < 1000 by decide)
  refine round_spec (by decide) (by decide) ?_
  generalize p2 % 1000 = y at a0 a1
  rw [wrap64_id (x := 1 + y) (by omega) (by omega), wrap64_id (x := 1 + y + 1) (by omega) (by omega)]
  have b0 := Int.emod_nonneg p0 (show (1 + y + 1 : Int) ≠ 0 by omega)
  have b1 := Int.emod_lt_of_pos p0 (show (0 : Int) < 1 + y + 1 by omega)
  refine round_spec (by omega) (by omega) ?_
  generalize p0 % (1 + y + 1) = live at b0 b1
  have c0 := Int.emod_nonneg p1 (show (1073741824 : Int) ≠ 0 by decide)
  have c1 := Int.emod_lt_of_pos p1 (show (0 : Int) < 1073741824 by decide)
  refine round_spec (by decide) (by decide) ?_
  generalize p1 % 1073741824 = age at c0 c1
  rw [wrap64_id (x := live + 1) (by omega) (by omega)]
  have d0 := Int.emod_nonneg p3 (show (live + 1 : Int) ≠ 0 by omega)
  have d1 := Int.emod_lt_of_pos p3 (show (0 : Int) < live + 1 by omega)
  refine round_spec (by omega) (by omega) ?_
  generalize p3 % (live + 1) = less at d0 d1
  have e0 := Int.emod_nonneg p4 (show (1048576 : Int) ≠ 0 by decide)
  have e1 := Int.emod_lt_of_pos p4 (show (0 : Int) < 1048576 by decide)
  refine round_spec (by decide) (by decide) (score_spec ?_)
  generalize p4 % 1048576 = more at e0 e1
  rw [wrap64_id (x := age + more) (by omega) (by omega)]
  generalize hroom : 1 + y = room at *
  have s1 : scoreOk live age room := ⟨⟨by omega, by omega⟩, ⟨by omega, by omega⟩, by omega, by omega⟩
  have s2 : scoreOk less age room := ⟨⟨by omega, by omega⟩, ⟨by omega, by omega⟩, by omega, by omega⟩
  have s3 : scoreOk live (age + more) room := ⟨⟨by omega, by omega⟩, ⟨by omega, by omega⟩, by omega, by omega⟩
  have s4 : scoreOk room age room := ⟨⟨by omega, by omega⟩, ⟨by omega, by omega⟩, by omega, by omega⟩
  have s5 : scoreOk live 0 room := ⟨⟨by omega, by omega⟩, ⟨by omega, by omega⟩, by omega, by omega⟩
  have s6 : scoreOk 0 age room := ⟨⟨by omega, by omega⟩, ⟨by omega, by omega⟩, by omega, by omega⟩
  obtain ⟨n0, n1, n2, n3⟩ := score_num s1
  have v1 : scoreOf live age room = (room - live) * age / (room + live) := by rw [scoreOf, if_pos s1]
  refine mJoin_intro (mIf_pos (by rw [v1]; exact decide_eq_true n2) (score_spec (mJoin_intro (mIf_pos ?_ (score_spec (mJoin_intro (mIf_pos ?_ (score_spec (mJoin_intro (mIf_pos ?_ (score_spec (mJoin_intro (mIf_pos ?_ (score_spec (mJoin_intro (mIf_pos ?_ (awake_spec fun H' x => ⟨rfl, x⟩))))))))))))))))
  )
  · rw [v1, scoreOf, if_pos s2]
    refine decide_eq_true (div_le n0 (by omega) ?_ (by omega) (by omega))
    exact Int.mul_le_mul_of_nonneg_right (by omega) c0
  · rw [v1, scoreOf, if_pos s3]
    refine decide_eq_true (div_le n0 (by omega) ?_ (by omega) (by omega))
    exact Int.mul_le_mul_of_nonneg_left (by omega) (by omega)
  · rw [scoreOf, if_pos s4, Int.sub_self, Int.zero_mul, Int.zero_ediv]; rfl
  · rw [scoreOf, if_pos s5, Int.mul_zero, Int.zero_ediv]; rfl
  · rw [scoreOf, if_pos s6, Int.sub_zero, Int.add_zero, Int.mul_ediv_cancel_left _ (by omega)]; simp
end
end Go.Proofs.Ytinjkdoikljakaa

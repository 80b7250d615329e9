/- victim: Score, Better, Pick; awake. -/
import Derived.Test.YtinjkdoikljakaaVicC
set_option linter.unusedVariables false
set_option linter.unusedSimpArgs false
namespace Go.Proofs.Ytinjkdoikljakaa
open Go Go.Kx

def DoneD (H : PH) (r : Bool) (H' : PH) : Prop := r = true ∧ Ext H H'
abbrev X3 := Int × Int × Int
def encX (x : X3) : List Value := [.int .i64 x.1, .int .i64 x.2.1, .int .i64 x.2.2]
def scoreOk (live age room : Int) : Prop := (1 ≤ room ∧ room ≤ 1000) ∧ (0 ≤ live ∧ live ≤ room) ∧ 0 ≤ age ∧ age ≤ 2147483647
instance (a b c : Int) : Decidable (scoreOk a b c) := by unfold scoreOk; infer_instance
def scoreOf (live age room : Int) : Int := if scoreOk live age room then (room - live) * age / (room + live) else 0
def betterB (a b : X3) : Bool := if a.1 ≠ b.1 then decide (b.1 < a.1) else if a.2.1 ≠ b.2.1 then decide (a.2.1 < b.2.1) else decide (a.2.2 < b.2.2)
def ageOf (now stamp : Int) : Int := if now ≤ stamp then 0 else min (now - stamp) 2147483647
section
variable {H : PH} {L : List Ob}
theorem vwithin {n low high : Int} {Q : Bool → PH → Prop} (hQ : Q (decide (low ≤ n) && decide (n ≤ high)) H) : victim_within n low high H Q := by
  refine mJoin_intro (mIf_intro (fun c => ?_) (fun c => ?_))
  · rw [c, Bool.true_and] at hQ; exact hQ
  · rw [c, Bool.false_and] at hQ; exact hQ
theorem score_num {live age room : Int} (h : scoreOk live age room) : 0 ≤ (room - live) * age ∧ (room - live) * age ≤ 1000 * 2147483647 ∧ 0 ≤ (room - live) * age / (room + live) ∧ (room - live) * age / (room + live) ≤ (room - live) * age := by
  obtain ⟨⟨a1, a2⟩, ⟨a3, a4⟩, a5, a6⟩ := h
  have h0 : 0 ≤ (room - live) * age := Int.mul_nonneg (by omega) a5
  have h1 : (room - live) * age ≤ 1000 * 2147483647 := Int.mul_le_mul (by omega) a6 a5 (by decide)
  exact ⟨h0, h1, Int.ediv_nonneg h0 (by omega), Int.ediv_le_self _ h0⟩
theorem score_spec {live age room : Int} {Q : Int → PH → Prop} (hQ : Q (scoreOf live age room) H) : victim_Score live age room H Q := by
  by_cases h : scoreOk live age room
  · obtain ⟨n0, n1, n2, n3⟩ := score_num h
    rw [scoreOf, if_pos h] at hQ
    obtain ⟨⟨a1, a2⟩, ⟨a3, a4⟩, a5, a6⟩ := h
    refine vwithin (mJoin_intro (mIf_neg (by simp; omega) (vwithin ?_)))
    have e1 : (!(decide (0 ≤ live) && decide (live ≤ room))) = false := by simp; omega
    rw [e1]
    refine mJoin_intro (mIf_neg rfl (vwithin ?_))
    have e2 : (!(decide (0 ≤ age) && decide (age ≤ 2147483647))) = false := by simp; omega
    rw [e2]
    refine mIf_neg rfl ⟨by rw [wrap64_id (by omega) (by omega)]; omega, ?_⟩
    rw [wrap64_id (x := room + live) (by omega) (by omega), wrap64_id (x := room - live) (by omega) (by omega), wrap64_id (x := (room - live) * age) (by omega) (by omega), Int.tdiv_eq_ediv_of_nonneg n0, wrap64_id (by omega) (by omega)]
    exact hQ
  · rw [scoreOf, if_neg h] at hQ
    refine vwithin (mJoin_intro (mIf_intro (fun _ => mJoin_intro (mIf_pos rfl (mIf_pos rfl hQ))) (fun c1 => vwithin (mJoin_intro (mIf_intro (fun _ => mIf_pos rfl hQ) (fun c2 => vwithin (mIf_pos ?_ hQ)))))))
    simp at c1 c2 ⊢
    simp only [scoreOk] at h
    omega
theorem better_spec {a b : X3} {Q : Bool → PH → Prop} (hQ : ∀ H', Ext H H' → Q (betterB a b) H') : victim_Better a b H Q := by
  refine new_row fun a1 H1 x1 r1 _ => new_row fun a2 H2 x2 r2 f2 => ?_
  have r1' : RowAt H2 a1 (encX a) := r1.ext x2
  have r2' : RowAt H2 a2 (encX b) := r2
  have q := hQ H2 (x1.trans x2)
  have i0 : ∀ {a : Addr} {K : Addr → Prop}, K (a.add 0) → mIdxA 3 a 1 0 K := fun h => idxA_row (by decide) (by decide) h
  have i1 : ∀ {a : Addr} {K : Addr → Prop}, K (a.add 1) → mIdxA 3 a 1 1 K := fun h => idxA_row (by decide) (by decide) h
  have i2 : ∀ {a : Addr} {K : Addr → Prop}, K (a.add 2) → mIdxA 3 a 1 2 K := fun h => idxA_row (by decide) (by decide) h
  refine i0 (ld_row (x := a.1) r1' rfl (i0 (ld_row (x := b.1) r2' rfl (mIf_intro (fun c => ?_) (fun c => ?_)))))
  · have c' : a.1 ≠ b.1 := by simpa using c
    rw [betterB, if_pos c'] at q
    exact i0 (ld_row (x := a.1) r1' rfl (i0 (ld_row (x := b.1) r2' rfl q)))
  · have c' : ¬ a.1 ≠ b.1 := by simpa using c
    rw [betterB, if_neg c'] at q
    refine i1 (ld_row (x := a.2.1) r1' rfl (i1 (ld_row (x := b.2.1) r2' rfl (mJoin_intro (mIf_intro (fun c1 => ?_) (fun c1 => ?_)))))
    )
    · have c1' : a.2.1 < b.2.1 := by simpa using c1
      rw [if_pos (by omega), c1] at q
      exact q
    · have c1' : ¬ a.2.1 < b.2.1 := by simpa using c1
      refine i1 (ld_row (x := a.2.1) r1' rfl (i1 (ld_row (x := b.2.1) r2' rfl (mJoin_intro (mIf_intro (fun c2 => ?_) (fun c2 => ?_))))))
      · have c2' : a.2.1 = b.2.1 := by simpa using c2
        rw [if_neg (by omega)] at q
        exact i2 (ld_row (x := a.2.2) r1' rfl (i2 (ld_row (x := b.2.2) r2' rfl q)))
      · have c2' : ¬ a.2.1 = b.2.1 := by simpa using c2
        rw [if_pos c2', c1] at q
        exact q
theorem age_spec {now stamp : Int} {Q : Int → PH → Prop} (h0 : 0 ≤ stamp) (h1 : now ≤ 9223372036854775807) (hQ : Q (ageOf now stamp) H) : victim_age now stamp H Q := by
  refine mIf_intro (fun c => ?_) (fun c => ?_)
  · have c' : now ≤ stamp := by simpa using c
    rw [ageOf, if_pos c'] at hQ; exact hQ
  · have c' : ¬ now ≤ stamp := by simpa using c
    rw [ageOf, if_neg c'] at hQ
    rw [wrap64_id (x := now - stamp) (by omega) (by omega)]
    have e : (if 2147483647 < now - stamp then 2147483647 else now - stamp) = min (now - stamp) 2147483647 := by split <;> omega
    rw [e]; exact hQ
end

/-- One that may be picked, and how it is weighed. -/
def cand (c : Cfg) (l : List Use) (v : List Int) (now : Int) (k : Nat) : Option X3 :=
  if ((l.getD k (0, 0)).1 == 2) && (decide (1 ≤ v.getD k 0) && decide (v.getD k 0 ≤ half c)) then some (scoreOf (v.getD k 0) (ageOf now (l.getD k (0, 0)).2) (c.2.2 - 2), v.getD k 0, (k : Int)) else none
def pickTo (c : Cfg) (l : List Use) (v : List Int) (now : Int) : Nat → Option X3
  | 0 => none
  | k + 1 => match cand c l v now k with
    | none => pickTo c l v now k
    | some x => match pickTo c l v now k with
      | none => some x
      | some b => if betterB x b then some x else some b
section
variable {H : PH} {a : Addr} {g : Addr} {s t : Sl} {l : List Use} {v : List Int} {c : Cfg}
theorem S_strow {L : List Ob} {b : Addr} {cs vs : List Value} {K : PH → Prop} (h : Stars H L) (i : Nat) (hi : L[i]? = some (rowO b cs)) (hl : vs.length = cs.length) (hv : vs.all cellV = true) (hK : ∀ H', Stars H' (L.set i (rowO b vs)) → K H') : mSt H b vs K :=
  st_row (h.get i hi) hl hv fun H' r k => hK H' (h.turn (O' := rowO b vs) i hi r (fun c hc => .inl hc) fun c o hc hn => k c o hc hn)
theorem S_ldrow {L : List Ob} {b : Addr} {x : X3} {K : X3 → Prop} (h : Stars H L) (i : Nat) (hi : L[i]? = some (rowO b (encX x))) (hK : K x) : mLdR (fun (x : (Int × Int × Int)) => [.int .i64 x.1, .int .i64 x.2.1, .int .i64 x.2.2]) H b 3 K :=
  ldr_row (x := x) (h.get i hi : RowAt H b (encX x)) rfl hK
theorem pick_spec {now : Int} {Q : Int → Bool → PH → Prop} (r : RowAt H a (tabRow (some g) s t)) (hg : Gm H (some g) c) (hc : CfgOk c) (hs : ListN encU 2 H s l) (ht : Ints H t v) (hv : v.length = l.length) (hn : l.length < 2 ^ 30) (hst : ∀ u : Use, u ∈ l → 0 ≤ u.2) (hnow : now ≤ 9223372036854775807)
    (hQ : ∀ H', Ext H H' → Q (((pickTo c l v now l.length).getD (0, 0, 0)).2.2) (pickTo c l v now l.length).isSome H') : victim_Pick (some g) (some a) now H Q := by
  refine S_row (Stars.start H) fun a1 H1 h1 _ => S_row h1 fun a4 H2 h2 _ => S_row h2 fun a7 H3 h3 _ => S_row h3 fun a10 H4 h4 _ => S_row h4 fun a13 H5 h5 _ => S_st1 h5 5 rfl rfl fun H6 h6 => ?_
  refine S_ld1 (enc := Value.pointer) (x := some g) h6 1 rfl (mJoin_intro (mIf_neg rfl (S_ld1 (enc := Value.pointer) (x := some a) h6 2 rfl (mIf_neg rfl (S_ld1 (enc := Value.pointer) (x := some a) h6 2 rfl ?_)))))
  refine S_row h6 fun c0 H7 h7 _ => ?_
  refine usage_Table_Sealed_c1_s _ _ _ _ _ (sealed_c1_spec (a := a) (p := some g) (s := s) (t := t) (l := l)
    (fun k _ Hk => Stars Hk [baseO H, rowO a1 [.pointer (some g)], rowO a4 [.pointer (some a)], rowO a7 [.int .i64 now], rowO a10 (encX ((pickTo c l v now k).getD (0, 0, 0))), rowO a13 [.bool (pickTo c l v now k).isSome], rowO c0 [.pointer (some a)]]) (by omega)
    ?_ h7 ?_ ?_ ?_)
  · intro k _ Hk hk
    exact ⟨hk.cell1 6 rfl, r.ext hk.base, hs.ext hk.base⟩
  · intro k _ Hk hkl hk hf
    have : cand c l v now k = none := by rw [cand, hf]; rfl
    have e : pickTo c l v now (k + 1) = pickTo c l v now k := by simp only [pickTo, this]
    rw [e]; exact hk
  · intro k _ Hk K hkl hk hf hnext hbrk
    have gv : getZ 0 v (k : Int) = v.getD k 0 := by rw [getZ, if_pos (by omega), Int.toNat_natCast]
    have gl : getZ (0, 0) l (k : Int) = l.getD k (0, 0) := by rw [getZ, if_pos (by omega), Int.toNat_natCast]
    refine ⟨_, rfl, S_ld1 (enc := Value.pointer) (x := some a) hk 2 rfl (live_spec (r.ext hk.base) hs.lenI (ht.ext hk.base) hv (S_ld1 (enc := Value.pointer) (x := some g) hk 1 rfl (half_spec (hg.ext hk.base) hc (vwithin ?_))))⟩
    rw [gv]
    refine mIf_intro (fun c1 => hnext () Hk ?_) (fun c1 => ?_)
    · have c1' : (decide (1 ≤ v.getD k 0) && decide (v.getD k 0 ≤ half c)) = false := by
        cases hb : (decide (1 ≤ v.getD k 0) && decide (v.getD k 0 ≤ half c)) with
        | false => rfl
        | true => rw [hb] at c1; cases c1
      have : cand c l v now k = none := by rw [cand, c1', Bool.and_false]; rfl
      have e : pickTo c l v now (k + 1) = pickTo c l v now k := by simp only [pickTo, this]
      rw [e]; exact hk
    · have c1' : (decide (1 ≤ v.getD k 0) && decide (v.getD k 0 ≤ half c)) = true := by simpa using c1
      obtain ⟨x, hcx⟩ : ∃ x, x = (scoreOf (v.getD k 0) (ageOf now (l.getD k (0, 0)).2) (c.2.2 - 2), v.getD k 0, (k : Int)) := ⟨_, rfl⟩
      have hcand : cand c l v now k = some x := by rw [cand, hf, c1', hcx]; rfl
      have h5 := hc.2.2.2.2.1; have h6 := hc.2.2.2.2.2
      have hu0 : 0 ≤ (l.getD k (0, 0)).2 := by
        have hx : l[k]? = some l[k] := List.getElem?_eq_getElem hkl
        have : l.getD k (0, 0) = l[k] := by simp [List.getD, hx]
        rw [this]; exact hst _ (List.getElem_mem hkl)
      refine mJoin_intro (S_ld1 (enc := Value.int .i64) (x := now) hk 3 rfl (S_ld1 (enc := Value.pointer) (x := some a) hk 2 rfl (S_ld1 (enc := Value.pointer) (x := some g) hk 1 rfl (stamp_spec (r.ext hk.base) (hs.ext hk.base) ⟨hk.cell1 1 rfl, hk.cell1 3 rfl, ?_⟩))))
      rw [gl]
      refine age_spec hu0 hnow ⟨hk.cell1 1 rfl, cfg_spec (hg.ext hk.base) fun H8 x8 => ?_⟩
      rw [wrap64_id (x := c.2.2 - 2) (by omega) (by omega)]
      have h8 := hk.ext x8
      refine score_spec (S_row h8 fun a87 H9 h9 _ => ?_)
      rw [show [Value.int .i64 (scoreOf (v.getD k 0) (ageOf now (l.getD k (0, 0)).2) (c.2.2 - 2)), .int .i64 (v.getD k 0), .int .i64 (k : Int)] = encX x by rw [hcx]; rfl]
      refine S_strow h9 7 rfl rfl rfl fun H10 h10 => ?_
      have h10' : Stars H10 [baseO H, rowO a1 [.pointer (some g)], rowO a4 [.pointer (some a)], rowO a7 [.int .i64 now], rowO a10 (encX ((pickTo c l v now k).getD (0, 0, 0))), rowO a13 [.bool (pickTo c l v now k).isSome], rowO c0 [.pointer (some a)], rowO a87 (encX x)] := h10
      clear h10 h9 h8
      have put : ∀ H11, (pickTo c l v now (k + 1) = some x) → Stars H11 [baseO H, rowO a1 [.pointer (some g)], rowO a4 [.pointer (some a)], rowO a7 [.int .i64 now], rowO a10 (encX ((pickTo c l v now k).getD (0, 0, 0))), rowO a13 [.bool (pickTo c l v now k).isSome], rowO c0 [.pointer (some a)], rowO a87 (encX x)] →
          mLdR (fun (x : (Int × Int × Int)) => [.int .i64 x.1, .int .i64 x.2.1, .int .i64 x.2.2]) H11 a87 3 fun x58 => mSt H11 a10 ([.int .i64 x58.1, .int .i64 x58.2.1, .int .i64 x58.2.2]) fun H60 => mSt H60 a13 ([.bool true]) fun H62 => K 0 () H62 := by
        intro H11 he h11
        refine S_ldrow h11 7 rfl (S_strow (vs := encX x) h11 4 rfl rfl rfl fun H12 h12 => S_st1 h12 5 rfl rfl fun H13 h13 => hnext () H13 ?_)
        rw [he]
        exact h13.pick [0, 1, 2, 3, 4, 5, 6] (by decide) rfl (by simp)
      refine S_ld1 (enc := Value.bool) h10' 5 rfl (mJoin_intro ?_)
      cases hp : pickTo c l v now k with
      | none =>
        have e : pickTo c l v now (k + 1) = some x := by simp only [pickTo, hcand, hp]
        exact mIf_pos rfl (mIf_pos rfl (put H10 e h10'))
      | some b =>
        have h11 := h10'
        rw [hp] at h11
        refine mIf_neg rfl (S_ldrow h11 7 rfl (S_ldrow (x := b) h11 4 rfl (better_spec fun H11 x11 => ?_)))
        refine mIf_intro (fun cb => put H11 ?_ (h10'.ext x11)) (fun cb => hnext () H11 ?_)
        · simp only [pickTo, hcand, hp]
          rw [if_pos cb]
        · have e : pickTo c l v now (k + 1) = some b := by
            simp only [pickTo, hcand, hp]
            rw [if_neg (by rw [cb]; decide)]
          rw [e]
          exact (h11.ext x11).pick [0, 1, 2, 3, 4, 5, 6] (by decide) rfl (by simp)
  · intro _ Hk hk
    have ra : RowAt Hk a10 (encX ((pickTo c l v now l.length).getD (0, 0, 0))) := hk.get 4 rfl
    exact idxA_row (by decide) (by decide) (ld_row (x := ((pickTo c l v now l.length).getD (0, 0, 0)).2.2) ra rfl (S_ld1 (enc := Value.bool) hk 5 rfl (hQ Hk hk.base)))
end
end Go.Proofs.Ytinjkdoikljakaa

/- THE LAW VictimBest, on formulas: the plain part. -/
import Derived.Test.YtinjkdoikljakaaVicQ
set_option linter.unusedVariables false
set_option linter.unusedSimpArgs false
namespace Go.Proofs.Ytinjkdoikljakaa
open Go Go.Kx
theorem pick_best (c : Cfg) (l : List Use) (v : List Int) (now : Int) : ∀ k s x, s < k → cand c l v now s = some x → ∃ b, pickTo c l v now k = some b ∧ betterB x b = false
  | 0, s, x, h, _ => absurd h (by omega)
  | k + 1, s, x, h, hx => by
    have ih := pick_best c l v now k
    rw [pickTo_succ, stepP]
    cases hz : cand c l v now k with
    | none =>
      by_cases e : s = k
      · subst e; rw [hz] at hx; cases hx
      · exact ih s x (by omega) hx
    | some z =>
      cases hp : pickTo c l v now k with
      | none =>
        by_cases e : s = k
        · subst e; rw [hz] at hx; cases hx
          exact ⟨_, rfl, better_irr _⟩
        · obtain ⟨b, hb, _⟩ := ih s x (by omega) hx
          rw [hp] at hb; cases hb
      | some b =>
        simp only
        by_cases hzb : betterB z b = true
        · rw [if_pos hzb]
          refine ⟨z, rfl, ?_⟩
          by_cases e : s = k
          · subst e; rw [hz] at hx; cases hx; exact better_irr _
          · obtain ⟨b', hb, hxb⟩ := ih s x (by omega) hx
            rw [hp] at hb; cases hb
            cases h2 : betterB x z with
            | false => rfl
            | true => rw [better_trans h2 hzb] at hxb; cases hxb
        · rw [if_neg hzb]
          refine ⟨b, rfl, ?_⟩
          by_cases e : s = k
          · subst e; rw [hz] at hx; cases hx; simpa using hzb
          · obtain ⟨b', hb, hxb⟩ := ih s x (by omega) hx
            rw [hp] at hb; cases hb; exact hxb
theorem pick_is (c : Cfg) (l : List Use) (v : List Int) (now : Int) : ∀ k b, pickTo c l v now k = some b → ∃ s : Nat, s < k ∧ cand c l v now s = some b ∧ b.2.2 = s
  | 0, b, h => by cases h
  | k + 1, b, h => by
    have ih := pick_is c l v now k
    rw [pickTo_succ, stepP] at h
    have hc : ∀ z, cand c l v now k = some z → z.2.2 = k := fun z hz => by
      unfold cand at hz
      split at hz
      · cases hz; rfl
      · cases hz
    cases hz : cand c l v now k with
    | none =>
      rw [hz] at h
      obtain ⟨s, h1, h2, h3⟩ := ih b h
      exact ⟨s, by omega, h2, h3⟩
    | some z =>
      rw [hz] at h
      cases hp : pickTo c l v now k with
      | none => rw [hp] at h; cases h; exact ⟨k, by omega, hz, hc _ hz⟩
      | some b' =>
        rw [hp] at h
        simp only at h
        split at h
        · cases h; exact ⟨k, by omega, hz, hc _ hz⟩
        · cases h
          obtain ⟨s, h1, h2, h3⟩ := ih _ hp
          exact ⟨s, by omega, h2, h3⟩
theorem pick_some (c : Cfg) (l : List Use) (v : List Int) (now : Int) (k : Nat) : (pickTo c l v now (k + 1)).isSome = ((pickTo c l v now k).isSome || (cand c l v now k).isSome) := by
  rw [pickTo_succ, stepP]
  cases cand c l v now k with
  | none => simp
  | some z =>
    cases pickTo c l v now k with
    | none => rfl
    | some b =>
      simp only
      split <;> rfl
end Go.Proofs.Ytinjkdoikljakaa

/- WHAT A CRASH LEAVES WHERE EACH SECTOR IS HELD ONCE. -/
import Derived.Test.YtdoldlinaghfbaaDiskH
set_option linter.unusedVariables false
set_option linter.unusedSimpArgs false
namespace Go.Proofs.Ytdoldlinaghfbaa
open Go Go.Kx

/-- How many of the first k picks tear. -/
def torns (m : List Int) : Nat → Nat
  | 0 => 0
  | k + 1 => torns m k + (if pickAt m k % 3 = 2 then 1 else 0)
/-- How many bytes of the new ones sector i has. -/
def goneTo (m : List Int) (i : Nat) : Nat := if pickAt m i % 3 = 1 then 64 else if pickAt m i % 3 = 2 ∧ torns m i = 0 then (pickAt m i / 3).toNat else 0
theorem tear_all (a b : Blk) : tear a b 64 = b := by
  apply Subtype.ext
  simp only [tear]
  rw [List.take_of_length_le (by rw [b.2]; omega), List.drop_of_length_le (by rw [a.2]; omega), List.append_nil]
theorem tear_none (a b : Blk) : tear a b 0 = a := by
  apply Subtype.ext
  simp [tear]
theorem crash_picks (m : List Int) (n : Nat) (old : Blk) (new : Nat → Blk) : ∀ k, k ≤ n →
    (crashTo m (List.replicate n old) ((List.range n).map fun (i : Nat) => ((i : Int), new i)) k).2 = decide (0 < torns m k) ∧
    ∀ i, i < n → (crashTo m (List.replicate n old) ((List.range n).map fun (i : Nat) => ((i : Int), new i)) k).1[i]? = some (if i < k then tear old (new i) (goneTo m i) else old)
  | 0, _ => ⟨rfl, fun i hi => by simp [crashTo, hi]⟩
  | k + 1, hk => by
    obtain ⟨h1, h2⟩ := crash_picks m n old new k (by omega)
    have hl := crashTo_length m (List.replicate n old) ((List.range n).map fun (i : Nat) => ((i : Int), new i)) k
    have hget : ((List.range n).map fun (i : Nat) => ((i : Int), new i))[k]? = some ((k : Int), new k) := by simp [show k < n by omega]
    have hstep : crashTo m (List.replicate n old) ((List.range n).map fun (i : Nat) => ((i : Int), new i)) (k + 1) = crashOne m (crashTo m (List.replicate n old) ((List.range n).map fun (i : Nat) => ((i : Int), new i)) k) k ((k : Int), new k) := by
      show (match ((List.range n).map fun (i : Nat) => ((i : Int), new i))[k]? with | some w => _ | none => _) = _
      rw [hget]
    rw [hstep]
    generalize crashTo m (List.replicate n old) ((List.range n).map fun (i : Nat) => ((i : Int), new i)) k = st at *
    have hk' : st.1[k]? = some old := by rw [h2 k (by omega)]; simp
    have hlen : st.1.length = n := by simpa using hl
    unfold crashOne
    by_cases e1 : pickAt m k % 3 = 1
    · rw [if_pos e1]
      refine ⟨by rw [h1]; simp [torns, e1], fun i hi => ?_⟩
      simp only [Int.toNat_natCast]
      by_cases hik : i = k
      · subst hik
        rw [List.getElem?_set_self (by omega)]
        simp [goneTo, e1, tear_all]
      · rw [List.getElem?_set_ne (fun e => hik e.symm), h2 i hi]
        by_cases hlt : i < k
        · simp [hlt, show i < k + 1 by omega]
        · simp [hlt, show ¬ i < k + 1 by omega]
    · rw [if_neg e1]
      by_cases e2 : pickAt m k % 3 = 2 ∧ st.2 = false
      · rw [if_pos e2]
        have ht : torns m k = 0 := by have := e2.2; rw [h1] at this; simpa using this
        refine ⟨by simp [torns, e2.1], fun i hi => ?_⟩
        simp only [Int.toNat_natCast]
        by_cases hik : i = k
        · subst hik
          rw [List.getElem?_set_self (by omega)]
          have : st.1.getD i zeroB = old := by simp [List.getD, hk']
          rw [this]
          simp [goneTo, e2.1, ht]
        · rw [List.getElem?_set_ne (fun e => hik e.symm), h2 i hi]
          by_cases hlt : i < k
          · simp [hlt, show i < k + 1 by omega]
          · simp [hlt, show ¬ i < k + 1 by omega]
      · rw [if_neg e2]
        refine ⟨?_, fun i hi => ?_⟩
        · rw [h1]
          by_cases e3 : pickAt m k % 3 = 2
          · have : 0 < torns m k := by
              cases hs : st.2 with
              | false => exact absurd ⟨e3, hs⟩ e2
              | true => rw [hs] at h1; simpa using h1.symm
            simp [torns, this, e3]; try omega
          · simp [torns, e3]
        · rw [h2 i hi]
          by_cases hik : i = k
          · subst hik
            have : goneTo m i = 0 := by
              unfold goneTo
              rw [if_neg e1, if_neg]
              rintro ⟨e3, ht⟩
              refine e2 ⟨e3, ?_⟩
              rw [h1, ht]; rfl
            simp [this, tear_none]
          · by_cases hlt : i < k
            · simp [hlt, show i < k + 1 by omega]
            · simp [hlt, show ¬ i < k + 1 by omega]
end Go.Proofs.Ytdoldlinaghfbaa

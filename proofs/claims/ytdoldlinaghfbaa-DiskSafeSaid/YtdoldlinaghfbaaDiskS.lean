/- THE LAW DiskSafe, on formulas. -/
import Derived.Test.YtdoldlinaghfbaaDiskR
set_option linter.unusedVariables false
set_option linter.unusedSimpArgs false
namespace Go.Proofs.Ytdoldlinaghfbaa
open Go Go.Kx

/-- The slices of an array, as its cells. -/
def slots (l : List Sl) : List Value := l.map Sl.v
theorem slots_set (l : List Sl) (i : Nat) (s : Sl) : (slots l).set i (Sl.v s) = slots (l.set i s) := by simp [slots, List.map_set]
theorem slots_get {l : List Sl} {i : Nat} {s : Sl} (h : l[i]? = some s) : (slots l)[i]? = some (Sl.v s) := by simp [slots, h]
/-- Where a sector's byte after a crash comes from: what was safe, or one of the writes that are held for it. -/
theorem crashTo_from (m : List Int) (safe : List Blk) (held : List (Int × Blk)) (i : Nat) (p : Nat) (hp : p < 64) : ∀ k b, (crashTo m safe held k).1[i]? = some b →
    (∃ b0, safe[i]? = some b0 ∧ b.1[p]? = b0.1[p]?) ∨ ∃ j w, j < k ∧ held[j]? = some w ∧ w.1.toNat = i ∧ b.1[p]? = w.2.1[p]?
  | 0, b, h => .inl ⟨b, h, rfl⟩
  | k + 1, b, h => by
    have ih := crashTo_from m safe held i p hp k
    cases hw : held[k]? with
    | none =>
      have e : crashTo m safe held (k + 1) = crashTo m safe held k := by
        show (match held[k]? with | some w => _ | none => _) = _
        rw [hw]
      rw [e] at h
      rcases ih b h with h1 | ⟨j, w, h1, h2⟩
      · exact .inl h1
      · exact .inr ⟨j, w, by omega, h2⟩
    | some w =>
      have e : crashTo m safe held (k + 1) = crashOne m (crashTo m safe held k) k w := by
        show (match held[k]? with | some w => _ | none => _) = _
        rw [hw]
      rw [e] at h
      by_cases hl : w.1.toNat < (crashTo m safe held k).1.length
      · rw [crash_tear m _ k w hl] at h
        by_cases hi : w.1.toNat = i
        · subst hi
          generalize (if pickAt m k % 3 = 2 ∧ (crashTo m safe held k).2 = false then (pickAt m k / 3).toNat else if pickAt m k % 3 = 1 then 64 else 0) = n at h
          have hg : (crashTo m safe held k).1[w.1.toNat]? = some ((crashTo m safe held k).1.getD w.1.toNat zeroB) := by simp [List.getD, hl]
          generalize (crashTo m safe held k).1.getD w.1.toNat zeroB = old at h hg
          simp only [List.getElem?_set_self hl] at h
          cases h
          by_cases hn : p < n
          · refine .inr ⟨k, w, by omega, hw, rfl, ?_⟩
            simp only [tear]
            rw [List.getElem?_append_left (by rw [List.length_take, w.2.2]; omega), List.getElem?_take, if_pos hn]
          · have he : (tear old w.2 n).1[p]? = old.1[p]? := by
              simp only [tear]
              rw [List.getElem?_append_right (by rw [List.length_take]; omega), List.getElem?_drop, List.length_take, w.2.2]
              congr 1; omega
            rw [he]
            rcases ih old hg with h1 | ⟨j, w', h1, h2⟩
            · exact .inl h1
            · exact .inr ⟨j, w', by omega, h2⟩
        · simp only [List.getElem?_set_ne hi] at h
          rcases ih b h with h1 | ⟨j, w', h1, h2⟩
          · exact .inl h1
          · exact .inr ⟨j, w', by omega, h2⟩
      · have e2 : crashOne m (crashTo m safe held k) k w = ((crashTo m safe held k).1, (crashOne m (crashTo m safe held k) k w).2) := by
          refine Prod.ext ?_ rfl
          have hs : ∀ x, (crashTo m safe held k).1.set w.1.toNat x = (crashTo m safe held k).1 := fun x => List.set_eq_of_length_le (by omega)
          unfold crashOne
          split
          · exact hs _
          · split
            · exact hs _
            · rfl
        rw [e2] at h
        rcases ih b h with h1 | ⟨j, w', h1, h2⟩
        · exact .inl h1
        · exact .inr ⟨j, w', by omega, h2⟩

/-- Each held write for sector i is among the i-th list. -/
def AmongOk (held : List (Int × Blk)) (i : Nat) (bl : List Blk) : Prop := ∀ (j : Nat) (w : Int × Blk), held[j]? = some w → w.1.toNat = i → w.2 ∈ bl
/-- Rows of bytes, read by their slices. -/
def RowsAt (B : PH) (sl : List Sl) (bl : List Blk) : Prop := sl.length = bl.length ∧ ∀ (i : Nat) (s : Sl) (b : Blk), sl[i]? = some s → bl[i]? = some b → Bytes B s b.1
theorem RowsAt.ext {B B' : PH} {sl : List Sl} {bl : List Blk} (h : RowsAt B sl bl) (x : Ext B B') : RowsAt B' sl bl := ⟨h.1, fun i s b h1 h2 => (h.2 i s b h1 h2).ext x⟩
theorem RowsAt.set {B : PH} {sl : List Sl} {bl : List Blk} (h : RowsAt B sl bl) (i : Nat) {s : Sl} {b : Blk} (hs : Bytes B s b.1) : RowsAt B (sl.set i s) (bl.set i b) := by
  refine ⟨by simp [h.1], fun j s' b' h1 h2 => ?_⟩
  by_cases e : i = j
  · subst e
    have hl : i < sl.length := by have := (List.getElem?_eq_some_iff.1 h1).1; simpa using this
    rw [List.getElem?_set_self hl] at h1
    rw [List.getElem?_set_self (by rw [← h.1]; exact hl)] at h2
    cases h1; cases h2; exact hs
  · rw [List.getElem?_set_ne e] at h1 h2; exact h.2 j s' b' h1 h2
theorem RowsAt.snoc {B : PH} {sl : List Sl} {bl : List Blk} (h : RowsAt B sl bl) {s : Sl} {b : Blk} (hs : Bytes B s b.1) : RowsAt B (sl ++ [s]) (bl ++ [b]) := by
  refine ⟨by simp [h.1], fun j s' b' h1 h2 => ?_⟩
  by_cases hl : j < sl.length
  · rw [List.getElem?_append_left hl] at h1
    rw [List.getElem?_append_left (by rw [← h.1]; exact hl)] at h2
    exact h.2 j s' b' h1 h2
  · rw [List.getElem?_append_right (by omega)] at h1
    rw [List.getElem?_append_right (by rw [← h.1]; omega)] at h2
    have := (List.getElem?_eq_some_iff.1 h1).1
    simp at this
    have e0 : j - sl.length = 0 := by omega
    rw [← h.1, e0] at h2
    rw [e0] at h1
    simp at h1 h2
    subst h1; subst h2; exact hs
theorem RowsAt.get {B : PH} {sl : List Sl} {bl : List Blk} (h : RowsAt B sl bl) {i : Nat} {s : Sl} (hs : sl[i]? = some s) : ∃ b, bl[i]? = some b ∧ Bytes B s b.1 := by
  have hl := (List.getElem?_eq_some_iff.1 hs).1
  exact ⟨bl[i]'(by rw [← h.1]; exact hl), by simp, h.2 i s _ hs (by simp)⟩

/-- The eight lists of slices of the held writes: each a vector of its own. -/
def amongO (xs : List (Sl × List Sl)) : List Ob := xs.map fun x => vecO Sl.v x.1 x.2
theorem amongO_get {xs : List (Sl × List Sl)} {i : Nat} {x : Sl × List Sl} (h : xs[i]? = some x) : (amongO xs)[i]? = some (vecO Sl.v x.1 x.2) := by simp [amongO, h]
theorem amongO_set (xs : List (Sl × List Sl)) (i : Nat) (x : Sl × List Sl) : (amongO xs).set i (vecO Sl.v x.1 x.2) = amongO (xs.set i x) := by simp [amongO, List.map_set]

theorem wr_held {D : Dk} {i : Nat} {b : Blk} (ho : D.off = false) (hf : D.fuse = -1) (hi : i < D.now.length) : (D.wr i b.1).1.held = D.held ++ [((i : Int), b)] ∧ (D.wr i b.1).1.safe = D.safe ∧ (D.wr i b.1).1.now = D.now.set i b ∧ (D.wr i b.1).1.faults = D.faults := by
  obtain ⟨a1, a2⟩ := write_live (D := D) (i := i) (b := b) ho hf
  have hc : (0 ≤ (i : Int) ∧ (i : Int) < D.now.length) ∧ b.1.length = 64 := ⟨⟨by omega, by omega⟩, b.2⟩
  have e : D.wr i b.1 = (D.write i b, if D.act.2 then 0 else 3) := by rw [Dk.wr, dif_pos hc]; rfl
  rw [e]
  simp only [a2]
  exact ⟨trivial, trivial, trivial, trivial⟩
theorem idxA_slots {a : Addr} {i : Int} {K : Addr → Prop} {n : Nat} (h0 : 0 ≤ i) (h1 : i < n) (hK : K (a.add i.toNat)) : mIdxA n a 1 i K := idxA_row h0 h1 (by rw [Nat.mul_one]; exact hK)
end Go.Proofs.Ytdoldlinaghfbaa

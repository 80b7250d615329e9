/- THE DOCUMENT's DISK: New, Crash. -/
import Derived.Test.YtdoldlinaghfbaaDiskN
set_option linter.unusedVariables false
set_option linter.unusedSimpArgs false
namespace Go.Proofs.Ytdoldlinaghfbaa
open Go Go.Kx

/-- Other things out of the same blocks. -/
theorem Stars.remake {H : PH} {L L' : List Ob} (h : Stars H L) (own : Nat → Nat → Prop) (hu : ∀ j j' i, own j i → own j' i → j = j') (hp : ∀ (j : Nat) (O : Ob), L'[j]? = some O → O.pred H)
    (hf : ∀ (j : Nat) (O : Ob), L'[j]? = some O → ∀ c, O.foot c → ∃ (i : Nat) (P : Ob), own j i ∧ L[i]? = some P ∧ P.foot c) : Stars H L' := by
  refine ⟨hp, fun j k A B hj hk hne c ha hb => ?_⟩
  obtain ⟨i1, P1, o1, e1, f1⟩ := hf j A hj c ha
  obtain ⟨i2, P2, o2, e2, f2⟩ := hf k B hk c hb
  by_cases e : i1 = i2
  · subst e; exact hne (hu j k i1 o1 o2)
  · exact h.dj i1 i2 P1 P2 e1 e2 e c f1 f2
theorem Stars.pack3 {H : PH} {X A B C O : Ob} {R : List Ob} (h : Stars H (X :: A :: B :: C :: R)) (hp : O.pred H) (hf : ∀ c, O.foot c → A.foot c ∨ B.foot c ∨ C.foot c) : Stars H (X :: O :: R) := by
  refine Stars.remake h (fun j i => (j = 0 ∧ i = 0) ∨ (j = 1 ∧ 1 ≤ i ∧ i ≤ 3) ∨ (2 ≤ j ∧ i = j + 2)) (fun j j' i h1 h2 => by omega) (fun j P hj => ?_) (fun j P hj c hc => ?_)
  · match j, hj with
    | 0, hj => exact h.get 0 hj
    | 1, hj => simp at hj; subst hj; exact hp
    | j + 2, hj => exact h.get (j + 4) (by simpa using hj)
  · match j, hj with
    | 0, hj => exact ⟨0, P, .inl ⟨rfl, rfl⟩, hj, hc⟩
    | 1, hj =>
      simp at hj; subst hj
      rcases hf c hc with h1 | h1 | h1
      · exact ⟨1, A, .inr (.inl ⟨rfl, by omega, by omega⟩), rfl, h1⟩
      · exact ⟨2, B, .inr (.inl ⟨rfl, by omega, by omega⟩), rfl, h1⟩
      · exact ⟨3, C, .inr (.inl ⟨rfl, by omega, by omega⟩), rfl, h1⟩
    | j + 2, hj => exact ⟨j + 4, P, .inr (.inr ⟨by omega, by omega⟩), by simpa using hj, hc⟩

def rowsO (sl : List Sl) (bl : List Blk) : List Ob := List.zipWith (fun s (b : Blk) => vecO (Value.int .u8) s b.1) sl bl
theorem rowsO_snoc {sl : List Sl} {bl : List Blk} (h : sl.length = bl.length) (s : Sl) (b : Blk) : rowsO (sl ++ [s]) (bl ++ [b]) = rowsO sl bl ++ [vecO (Value.int .u8) s b.1] := by
  unfold rowsO; rw [List.zipWith_append h]; rfl
theorem rowsO_get {sl : List Sl} {bl : List Blk} {j : Nat} {s : Sl} {b : Blk} (h1 : sl[j]? = some s) (h2 : bl[j]? = some b) : (rowsO sl bl)[j]? = some (vecO (Value.int .u8) s b.1) := by
  simp [rowsO, List.getElem?_zipWith, h1, h2]
theorem rowsO_set {sl : List Sl} {bl : List Blk} {j : Nat} {s : Sl} (b : Blk) (h1 : sl[j]? = some s) : (rowsO sl bl).set j (vecO (Value.int .u8) s b.1) = rowsO sl (bl.set j b) := by
  apply List.ext_getElem?
  intro k
  unfold rowsO
  by_cases e : j = k
  · subst e
    by_cases hl : j < bl.length
    · have hs := (List.getElem?_eq_some_iff.1 h1).1
      rw [List.getElem?_set_self (by simp; omega)]
      simp [List.getElem?_zipWith, h1, hl]
    · rw [List.getElem?_eq_none (by simp; omega), List.getElem?_eq_none (by simp; omega)]
  · rw [List.getElem?_set_ne e]
    simp [List.getElem?_zipWith, List.getElem?_set_ne e]
def rcells (s f z : Sl) : List Value := [Sl.v s, Sl.v Sl.nil, Sl.v f, .int .i64 (-1), .bool false, .int .i64 0, Sl.v z]
/-- A disk as it is made: its struct, its faults, its rows, each for itself. -/
def rawO (H : PH) (a : Addr) (s f z : Sl) (sl : List Sl) (bl : List Blk) (fl : List Bool) : List Ob := baseO H :: rowO a (rcells s f z) :: vecO Value.bool f fl :: vecO Sl.v s sl :: rowsO sl bl

theorem rnew_spec {H : PH} {n : Int} {Q : Option Addr → PH → Prop} (hbad : ¬ (1 ≤ n ∧ n ≤ 4096) → Q none H)
    (hgood : 1 ≤ n ∧ n ≤ 4096 → ∀ a s f sl H', sl.length = n.toNat → Stars H' (rawO H a s f Sl.nil sl (List.replicate n.toNat zeroB) (List.replicate n.toNat false)) → Q (some a) H') : keelsonref1_NewDisk n H Q := by
  refine within_spec (mIf_intro (fun c => hbad (by simp at c; omega)) (fun c => ?_))
  have hg : 1 ≤ n ∧ n ≤ 4096 := by simp at c; omega
  obtain ⟨N, rfl⟩ := Int.eq_ofNat_of_zero_le (show 0 ≤ n by omega)
  have hgood := hgood hg
  simp only [Int.toNat_natCast] at hgood
  refine S_mk (enc := Value.bool) (x := false) (Stars.start H) (by omega) (by omega) fun f H1 h1 x1 => S_row h1 fun a H2 h2 x2 => ?_
  rw [Int.toNat_natCast] at h2
  have h3 := h2.nilv (enc := Sl.v)
  have h0 : Stars H2 (rawO H a Sl.nil f Sl.nil [] (List.replicate 0 zeroB) (List.replicate N false)) := h3.pick [0, 2, 1, 3] (by decide) rfl (by simp)
  refine mLoop_count N (fun k st Hk => st = (k : Int) ∧ ∃ s sl, sl.length = k ∧ Stars Hk (rawO H a s f Sl.nil sl (List.replicate k zeroB) (List.replicate N false))) ⟨rfl, Sl.nil, [], rfl, h0⟩ ?_
  rintro k st H4 again hk ⟨rfl, s, sl, hl, h4⟩ hag
  refine mIf_intro (fun c => ?_) (fun c => ?_)
  · have hkn : k < N := by simpa using c
    have x16 : ∀ (K : Sl → Prop), K s → mLd Sl.v H4 (a.add 0) K := fun K hK => S_ld h4 1 rfl rfl hK
    refine x16 _ ⟨⟨by decide, by decide, by decide⟩, newSI1 (enc := Value.int .u8) (x := 0) fun r H5 x5 o5 v5 => ?_⟩
    have h5 := h4.new (O' := vecO (Value.int .u8) r zeroB.1) x5 v5 o5
    refine ⟨RowAt.cell0 (a := a) (i := 0) (by have := (h5.get 1 rfl : RowAt H5 a _); exact this) rfl |> fun h => by simpa [add_zero'] using h, S_new1 (enc := Sl.v) h5 fun r6 H6 h6 x6 => ⟨RowAt.cell0 (a := a) (i := 0) (by have := (h6.get 1 rfl : RowAt H6 a _); exact this) rfl |> fun h => by simpa [add_zero'] using h, ?_⟩⟩
    have hs : ∀ j, (rawO H a s f Sl.nil sl (List.replicate k zeroB) (List.replicate N false) ++ [vecO (Value.int .u8) r zeroB.1] ++ [vecO Sl.v r6 [r]])[j + 0]? = (rawO H a s f Sl.nil sl (List.replicate k zeroB) (List.replicate N false) ++ [vecO (Value.int .u8) r zeroB.1] ++ [vecO Sl.v r6 [r]])[j]? := fun j => rfl
    have l6 : ListAt Sl.v H6 r6 [r] := Vec.list (h6.get ((rawO H a s f Sl.nil sl (List.replicate k zeroB) (List.replicate N false) ++ [vecO (Value.int .u8) r zeroB.1]).length) (by rw [List.getElem?_append_right (Nat.le_refl _), Nat.sub_self]; rfl) : Vec Sl.v H6 r6 [r])
    refine S_app (enc := Sl.v) (ys := [r]) h6 3 rfl l6 cvSl rfl (by simp; omega) fun r7 H7 h7 => S_st h7 1 rfl (by simp [rcells]) rfl fun H8 h8 => ?_
    rw [wrap_succ (by omega)]
    refine hag hkn _ _ ⟨rfl, r7, sl ++ [r], by simp [hl], ?_⟩
    have h9 : Stars H8 ((baseO H :: rowO a (rcells r7 f Sl.nil) :: vecO Value.bool f (List.replicate N false) :: vecO Sl.v r7 (sl ++ [r]) :: (rowsO sl (List.replicate k zeroB) ++ [vecO (Value.int .u8) r zeroB.1])) ++ [vecO Sl.v r6 [r]]) := h8
    have h10 := h9.init
    rw [← rowsO_snoc (by rw [hl]; simp)] at h10
    unfold rawO
    rw [List.replicate_succ']
    exact h10
  · have : k = N := by simp at c; omega
    subst this
    exact hgood a s f sl H4 hl h4
end Go.Proofs.Ytdoldlinaghfbaa

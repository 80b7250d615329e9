/- THE SUM IS LINEAR: what turned bits make of it. -/
import Derived.Test.YtnmanfkohkebfaaCrcB
set_option linter.unusedVariables false
set_option linter.unusedSimpArgs false
namespace Crc
open Go Go.Kx

def feed (v : BitVec 32) (bs : List Bool) : BitVec 32 := bs.foldl stepB v
def bit (l : List Int) (p : Nat) : Bool := (l.getD (p / 8) 0).toNat.testBit (p % 8)
def bitsOf (l : List Int) : List Bool := (List.range (8 * l.length)).map (bit l)
theorem feed_append (v : BitVec 32) (a b : List Bool) : feed v (a ++ b) = feed (feed v a) b := by simp [feed]
theorem feed_byte (v : BitVec 32) (c : Int) : byteB v c = feed v ((List.range 8).map c.toNat.testBit) := by
  simp [byteB, bitsF, feed, List.range_succ]
theorem bitsOf_snoc (l : List Int) (c : Int) : bitsOf (l ++ [c]) = bitsOf l ++ (List.range 8).map c.toNat.testBit := by
  unfold bitsOf
  rw [List.length_append, List.length_singleton, Nat.mul_add, List.range_add, List.map_append, List.map_map]
  congr 1
  · refine List.map_congr_left fun p hp => ?_
    have : p / 8 < l.length := by simp at hp; omega
    simp [bit, List.getD, List.getElem?_append_left this]
  · refine List.map_congr_left fun p hp => ?_
    have hp8 : p < 8 := by simpa using hp
    have e1 : (8 * l.length + p) / 8 = l.length := by omega
    have e2 : (8 * l.length + p) % 8 = p := by omega
    simp [bit, e1, e2, List.getD]
theorem snoc_ind {p : List Int → Prop} (h0 : p []) (h1 : ∀ l c, p l → p (l ++ [c])) : ∀ l, p l := by
  intro l
  have : ∀ n (l : List Int), l.length = n → p l := by
    intro n
    induction n with
    | zero => intro l h; rw [List.length_eq_zero_iff.1 h]; exact h0
    | succ n ih =>
      intro l h
      have hne : l ≠ [] := by intro e; subst e; cases h
      rw [← List.dropLast_concat_getLast hne]
      exact h1 _ _ (ih _ (by simp [h]))
  exact this _ l rfl
theorem addB_feed (v : BitVec 32) : ∀ l, addB v l = feed v (bitsOf l) := by
  refine snoc_ind rfl fun l c ih => ?_
  rw [addB_append, ih, bitsOf_snoc, feed_append, ← feed_byte]; rfl
theorem xor_pp (A B P : BitVec 32) : (A ^^^ P) ^^^ (B ^^^ P) = A ^^^ B := by
  have : (A ^^^ P) ^^^ (B ^^^ P) = (A ^^^ B) ^^^ (P ^^^ P) := by ac_rfl
  rw [this]; simp
theorem step_lin (v w : BitVec 32) (a b : Bool) : stepB (v ^^^ w) (a ^^ b) = stepB v a ^^^ stepB w b := by
  have e : ∀ (c : Bool) (x : BitVec 32), (if c = true then x ^^^ Pl else x) = x ^^^ (if c = true then Pl else 0) := fun c x => by cases c <;> simp
  unfold stepB
  rw [BitVec.getLsbD_xor, BitVec.ushiftRight_xor_distrib, e, e, e]
  have h : (if ((v.getLsbD 0 ^^ w.getLsbD 0) ^^ (a ^^ b)) = true then Pl else 0) = (if (v.getLsbD 0 ^^ a) = true then Pl else 0) ^^^ (if (w.getLsbD 0 ^^ b) = true then Pl else (0 : BitVec 32)) := by
    cases v.getLsbD 0 <;> cases w.getLsbD 0 <;> cases a <;> cases b <;> simp
  rw [h]; ac_rfl
theorem feed_lin : ∀ (a b : List Bool) (v w : BitVec 32), a.length = b.length → feed v a ^^^ feed w b = feed (v ^^^ w) (List.zipWith xor a b)
  | [], [], v, w, _ => rfl
  | x :: a, y :: b, v, w, h => by
    show feed (stepB v x) a ^^^ feed (stepB w y) b = feed (stepB (v ^^^ w) (x ^^ y)) (List.zipWith xor a b)
    rw [feed_lin a b _ _ (by simpa using h), step_lin]
theorem step0 : stepB 0 false = 0 := by decide
theorem feed0 : ∀ n, feed 0 (List.replicate n false) = 0
  | 0 => rfl
  | n + 1 => by
    show feed (stepB 0 false) (List.replicate n false) = 0
    rw [step0]; exact feed0 n
theorem step_inj {v : BitVec 32} (h : stepB v false = 0) : v = 0 := by
  unfold stepB at h
  have hshr : ∀ i, (v >>> 1).getLsbD i = v.getLsbD (i + 1) := fun i => by simp [BitVec.getLsbD_ushiftRight, Nat.add_comm]
  have h31 : (v >>> 1).getLsbD 31 = false := by
    rw [hshr]; exact BitVec.getLsbD_of_ge v 32 (by omega)
  split at h
  · exfalso
    have := congrArg (fun x => x.getLsbD 31) h
    simp only [BitVec.getLsbD_xor, h31] at this
    exact absurd this (by decide)
  · rename_i h0
    have h0' : v.getLsbD 0 = false := by simpa using h0
    apply BitVec.eq_of_getLsbD_eq
    intro i hi
    cases i with
    | zero => rw [h0']; simp
    | succ i => rw [← hshr, h]; simp
theorem feed_inj : ∀ n {v : BitVec 32}, feed v (List.replicate n false) = 0 → v = 0
  | 0, v, h => h
  | n + 1, v, h => step_inj (feed_inj n h)
/-- The word of some bits. -/
def word : List Bool → BitVec 32
  | [] => 0
  | c :: bs => (word bs <<< 1) ^^^ (if c then 1#32 else 0#32)
theorem word_hi : ∀ (bs : List Bool) i, bs.length ≤ i → (word bs).getLsbD i = false
  | [], i, _ => by simp [word]
  | c :: bs, i, h => by
    cases i with
    | zero => simp at h
    | succ i =>
      have := word_hi bs i (by simpa using h)
      simp only [word, BitVec.getLsbD_xor, BitVec.getLsbD_shiftLeft]
      have e : (if c then 1#32 else 0#32).getLsbD (i + 1) = false := by cases c <;> simp
      rw [e]; simp [this]
theorem feed_word : ∀ (bs : List Bool) (v : BitVec 32), bs.length ≤ 32 → feed v bs = feed (v ^^^ word bs) (List.replicate bs.length false)
  | [], v, _ => by simp [feed, word]
  | c :: bs, v, h => by
    show feed (stepB v c) bs = feed (stepB (v ^^^ word (c :: bs)) false) (List.replicate bs.length false)
    rw [feed_word bs _ (by simp at h; omega)]
    congr 1
    have h31 : (word bs).getLsbD 31 = false := word_hi bs 31 (by simp at h; omega)
    have e1 : stepB (word bs <<< 1) false = word bs := by
      unfold stepB
      have : (word bs <<< 1).getLsbD 0 = false := by simp [BitVec.getLsbD_shiftLeft]
      rw [this]
      simp only [Bool.xor_false, Bool.false_eq_true, if_false]
      apply BitVec.eq_of_getLsbD_eq
      intro i hi
      simp only [BitVec.getLsbD_ushiftRight, BitVec.getLsbD_shiftLeft]
      by_cases h31' : i = 31
      · subst h31'; rw [h31]; simp
      · have : 1 + i < 32 := by omega
        simp [this]
    have e2 : stepB (v ^^^ (if c then 1#32 else 0#32)) false = stepB v c := by
      have : (if c then 1#32 else 0#32).getLsbD 0 = c := by cases c <;> rfl
      unfold stepB
      rw [BitVec.getLsbD_xor, this, BitVec.ushiftRight_xor_distrib]
      have : (if c then 1#32 else 0#32) >>> 1 = 0#32 := by cases c <;> rfl
      rw [this]; simp
    have : v ^^^ word (c :: bs) = (v ^^^ (if c then 1#32 else 0#32)) ^^^ (word bs <<< 1) := by
      simp only [word]; rw [BitVec.xor_assoc, BitVec.xor_comm (word bs <<< 1)]
    rw [this]
    have := step_lin (v ^^^ (if c then 1#32 else 0#32)) (word bs <<< 1) false false
    simp only [Bool.xor_false] at this
    rw [this, e1, e2]
theorem word_zero : ∀ (bs : List Bool), bs.length ≤ 32 → word bs = 0 → ∀ i (h : i < bs.length), bs[i] = false
  | [], _, _, i, h => by cases h
  | c :: bs, hl, h0, i, h => by
    have hc : c = false := by
      have := congrArg (fun x => x.getLsbD 0) h0
      simp only [word, BitVec.getLsbD_xor, BitVec.getLsbD_shiftLeft] at this
      cases c
      · rfl
      · simp at this
    subst hc
    cases i with
    | zero => rfl
    | succ i =>
      refine word_zero bs (by simp at hl; omega) ?_ i (by simpa using h)
      apply BitVec.eq_of_getLsbD_eq
      intro j hj
      by_cases h31 : j = 31
      · subst h31; rw [word_hi bs 31 (by simp at hl; omega)]; simp
      · have := congrArg (fun x => x.getLsbD (j + 1)) h0
        simp only [word, BitVec.getLsbD_xor, BitVec.getLsbD_shiftLeft] at this
        have hj2 : j + 1 < 32 := by omega
        simpa [hj2] using this

/-- The places that a pattern turns. -/
def turned (first pat : Nat) (p : Nat) : Bool := decide (first ≤ p) && decide (p < first + 32) && pat.testBit (p - first)
def Turn (l x : List Int) (first pat : Nat) : Prop := x.length = l.length ∧ ∀ p, p < 8 * l.length → bit x p = (bit l p ^^ turned first pat p)
def dif (n first pat : Nat) : BitVec 32 := feed 0 ((List.range n).map (turned first pat))
theorem bitsOf_turn {l x : List Int} {first pat : Nat} (h : Turn l x first pat) : List.zipWith xor (bitsOf x) (bitsOf l) = (List.range (8 * l.length)).map (turned first pat) := by
  unfold bitsOf
  rw [h.1]
  apply List.ext_getElem
  · simp
  · intro i h1 h2
    have hi : i < 8 * l.length := by simpa using h2
    simp only [List.getElem_zipWith, List.getElem_map, List.getElem_range]
    rw [h.2 i hi]
    cases bit l i <;> simp
theorem addB_turn {l x : List Int} {first pat : Nat} (h : Turn l x first pat) (v : BitVec 32) : addB v x ^^^ addB v l = dif (8 * l.length) first pat := by
  rw [addB_feed, addB_feed, feed_lin _ _ _ _ (by simp [bitsOf, h.1]), bitsOf_turn h, BitVec.xor_self]; rfl
theorem sum_turn {l x : List Int} {first pat : Nat} (h : Turn l x first pat) : sumB x ^^^ sumB l = dif (8 * l.length) first pat := by
  unfold sumB
  rw [← addB_turn h (BitVec.allOnes 32)]
  apply BitVec.eq_of_getLsbD_eq
  intro i hi
  simp [BitVec.getLsbD_xor, BitVec.getLsbD_not, hi]
theorem dif_zero {n first pat : Nat} (hf : first < n) : dif n first pat = 0 ↔ ∀ k, k < 32 → first + k < n → pat.testBit k = false := by
  have key : (List.range n).map (turned first pat) = List.replicate first false ++ (List.range (min 32 (n - first))).map pat.testBit ++ List.replicate (n - first - min 32 (n - first)) false := by
    apply List.ext_getElem
    · simp; omega
    · intro i h1 h2
      have hi : i < n := by simpa using h1
      simp only [List.getElem_map, List.getElem_range, turned]
      by_cases ha : i < first
      · rw [List.getElem_append_left (by simp; omega), List.getElem_append_left (by simpa using ha)]
        have : ¬ first ≤ i := by omega
        simp [this]
      · by_cases hb : i < first + min 32 (n - first)
        · rw [List.getElem_append_left (by simp; omega), List.getElem_append_right (by simp; omega)]
          have h3 : first ≤ i := by omega
          have h4 : i < first + 32 := by omega
          simp [h3, h4]
        · rw [List.getElem_append_right (by simp; omega)]
          have h4 : ¬ i < first + 32 := by omega
          simp [h4]
  unfold dif
  rw [key, feed_append, feed_append, feed0, feed_word ((List.range (min 32 (n - first))).map pat.testBit) 0 (by simp; omega)]
  constructor
  · intro h k hk hn
    have h1 := feed_inj _ (feed_inj _ h)
    have hz : ∀ w : BitVec 32, 0 ^^^ w = w := fun w => BitVec.zero_xor
    rw [hz] at h1
    have := word_zero _ (by simp; omega) h1 k (by simp; omega)
    simpa using this
  · intro h
    have : (List.range (min 32 (n - first))).map pat.testBit = List.replicate (min 32 (n - first)) false := by
      apply List.ext_getElem
      · simp
      · intro i h1 h2
        have hi : i < min 32 (n - first) := by simpa using h1
        simp [h i (by omega) (by omega)]
    rw [this, ← feed_word _ _ (by simp; omega), feed0, feed0]

/-! ### A byte with one bit turned -/
theorem flip_byte {x : Int} {j : Nat} (h0 : 0 ≤ x) (h1 : x ≤ 255) (hj : j < 8) : ∃ y : Int, ixor .u8 x (ishl .u8 1 (j : Int)) = y ∧ 0 ≤ y ∧ y ≤ 255 ∧ ∀ i, i < 8 → y.toNat.testBit i = (x.toNat.testBit i ^^ decide (i = j)) := by
  obtain ⟨n, rfl⟩ := Int.eq_ofNat_of_zero_le h0
  have hn : n < 256 := by omega
  have e1 : ishl .u8 1 (j : Int) = ((1#8 <<< j).toNat : Int) := by
    have : j = 0 ∨ j = 1 ∨ j = 2 ∨ j = 3 ∨ j = 4 ∨ j = 5 ∨ j = 6 ∨ j = 7 := by omega
    rcases this with rfl | rfl | rfl | rfl | rfl | rfl | rfl | rfl <;> rfl
  refine ⟨((BitVec.ofNat 8 n ^^^ (1#8 <<< j)).toNat : Int), ?_, by omega, ?_, ?_⟩
  · rw [e1]
    show IntKind.u8.wrap ((BitVec.ofInt 8 (n : Int) ^^^ BitVec.ofInt 8 ((1#8 <<< j).toNat : Int)).toNat : Int) = _
    have a1 : BitVec.ofInt 8 (n : Int) = BitVec.ofNat 8 n := by simp
    have a2 : BitVec.ofInt 8 ((1#8 <<< j).toNat : Int) = 1#8 <<< j := by rw [BitVec.ofInt_natCast, BitVec.ofNat_toNat, BitVec.setWidth_eq]
    rw [a1, a2]
    have := (BitVec.ofNat 8 n ^^^ (1#8 <<< j)).isLt
    simp only [IntKind.wrap, IntKind.bits, IntKind.signed, Bool.false_and, Bool.false_eq_true, if_false]
    omega
  · have := (BitVec.ofNat 8 n ^^^ (1#8 <<< j)).isLt; omega
  · intro i hi
    have : ((BitVec.ofNat 8 n ^^^ (1#8 <<< j)).toNat : Int).toNat.testBit i = (BitVec.ofNat 8 n ^^^ (1#8 <<< j)).getLsbD i := by
      simp only [Int.toNat_natCast]; rfl
    rw [this, BitVec.getLsbD_xor, BitVec.getLsbD_ofNat]
    simp only [Int.toNat_natCast, hi, decide_true, Bool.true_and, BitVec.getLsbD_shiftLeft]
    congr 1
    by_cases hij : i = j
    · subst hij; simp
    · by_cases hlt : i < j
      · simp [hlt, hij]
      · have : i - j ≠ 0 := by omega
        simp [hlt, hij, BitVec.getLsbD_one, this]
theorem bit_set {l : List Int} {q j : Nat} {x y : Int} (hq : l[q]? = some x) (hj : j < 8) (hy : ∀ i, i < 8 → y.toNat.testBit i = (x.toNat.testBit i ^^ decide (i = j))) (p : Nat) :
    bit (l.set q y) p = (bit l p ^^ decide (p = 8 * q + j)) := by
  have hlt := (List.getElem?_eq_some_iff.1 hq).1
  unfold bit List.getD
  by_cases hp : p / 8 = q
  · rw [hp, List.getElem?_set_self hlt, hq]
    simp only [Option.getD_some]
    rw [hy _ (by omega)]
    congr 1
    rw [decide_eq_decide]; omega
  · rw [List.getElem?_set_ne (fun e => hp e.symm)]
    have : ¬ p = 8 * q + j := by omega
    simp [this]
theorem xor_words (v w : BitVec 32) : ixor .i64 (v.toNat : Int) (w.toNat : Int) = ((v ^^^ w).toNat : Int) := by
  show IntKind.i64.wrap ((BitVec.ofInt 64 (v.toNat : Int) ^^^ BitVec.ofInt 64 (w.toNat : Int)).toNat : Int) = _
  have hv := v.isLt
  have hw := w.isLt
  have e1 : (BitVec.ofInt 64 (v.toNat : Int)).toNat = v.toNat := by simp; omega
  have e2 : (BitVec.ofInt 64 (w.toNat : Int)).toNat = w.toNat := by simp; omega
  rw [BitVec.toNat_xor, e1, e2, ← BitVec.toNat_xor, wrap_v]
end Crc

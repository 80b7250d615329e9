/- THE SUM, PLAINLY: a register of 32 bits; what it does is linear, and no step of it loses anything. -/
import Derived.Test.YtnmanfkohkebfaaKxV
set_option linter.unusedVariables false
set_option linter.unusedSimpArgs false
namespace Crc
open Go Go.Kx

def Pl : BitVec 32 := 0x82F63B78#32
def stepB (v : BitVec 32) (c : Bool) : BitVec 32 := if (v.getLsbD 0 ^^ c) = true then (v >>> 1) ^^^ Pl else v >>> 1
def bitsF (v : BitVec 32) (c : Nat) : Nat → BitVec 32
  | 0 => v
  | i + 1 => stepB (bitsF v c i) (c.testBit i)
def byteB (v : BitVec 32) (c : Int) : BitVec 32 := bitsF v c.toNat 8
def addB (v : BitVec 32) (l : List Int) : BitVec 32 := l.foldl byteB v
def sumB (l : List Int) : BitVec 32 := ~~~ addB (BitVec.allOnes 32) l
def moreB (s : BitVec 32) (l : List Int) : BitVec 32 := ~~~ addB (~~~ s) l

theorem addB_append (v : BitVec 32) (a b : List Int) : addB v (a ++ b) = addB (addB v a) b := by simp [addB]
theorem more_append (s : BitVec 32) (a b : List Int) : moreB s (a ++ b) = moreB (moreB s a) b := by simp [moreB, addB_append]
theorem sum_more (a b : List Int) : sumB (a ++ b) = moreB (sumB a) b := by simp [sumB, moreB, addB_append]

/-! ### The program's numbers -/
theorem ofI (v : BitVec 32) : BitVec.ofInt 32 (v.toNat : Int) = v := by simp
theorem wrapU {n : Nat} (h : n < 2 ^ 32) : IntKind.u32.wrap (n : Int) = n := by
  simp only [IntKind.wrap, IntKind.bits, IntKind.signed, Bool.false_and, Bool.false_eq_true, if_false]
  omega
theorem xor_v (v u : BitVec 32) : ixor .u32 (v.toNat : Int) (u.toNat : Int) = ((v ^^^ u).toNat : Int) := by
  show IntKind.u32.wrap ((BitVec.ofInt 32 (v.toNat : Int) ^^^ BitVec.ofInt 32 (u.toNat : Int)).toNat : Int) = _
  rw [ofI, ofI, wrapU (BitVec.isLt _)]
theorem xor_P (v : BitVec 32) : ixor .u32 (v.toNat : Int) 2197175160 = ((v ^^^ Pl).toNat : Int) := xor_v v Pl
theorem shr_v (v : BitVec 32) : ishr .u32 (v.toNat : Int) 1 = ((v >>> 1).toNat : Int) := by
  simp only [ishr, IntKind.bits]
  show ((v.toNat : Int)).fdiv (2 ^ 1) = _
  rw [Int.fdiv_eq_ediv_of_nonneg _ (by decide)]
  simp [Nat.shiftRight_eq_div_pow]
theorem com_v (v : BitVec 32) : icom .u32 (v.toNat : Int) = ((~~~ v).toNat : Int) := by
  have : icom .u32 (v.toNat : Int) = ixor .u32 ((BitVec.allOnes 32).toNat : Int) (v.toNat : Int) := rfl
  rw [this, xor_v, BitVec.allOnes_xor]
theorem wrap_v (v : BitVec 32) : IntKind.i64.wrap (v.toNat : Int) = v.toNat := wrap64_id (by omega) (by have := v.isLt; omega)
theorem wrap32_v (v : BitVec 32) : IntKind.u32.wrap (v.toNat : Int) = v.toNat := wrapU v.isLt
theorem odd_v (v : BitVec 32) : (iand .u32 (v.toNat : Int) 1 == 1) = v.getLsbD 0 := by
  have : iand .u32 (v.toNat : Int) 1 = ((v &&& 1#32).toNat : Int) := by
    show IntKind.u32.wrap ((BitVec.ofInt 32 (v.toNat : Int) &&& BitVec.ofInt 32 1).toNat : Int) = _
    rw [ofI, wrapU (BitVec.isLt _)]; rfl
  rw [this]
  have h2 : (v &&& 1#32).toNat = v.toNat % 2 := by
    rw [BitVec.toNat_and]; exact Nat.and_one_is_mod _
  rw [h2]
  have h3 : v.getLsbD 0 = decide (v.toNat % 2 = 1) := by
    simp [BitVec.getLsbD, Nat.testBit_zero]
  rw [h3]
  rcases Nat.mod_two_eq_zero_or_one v.toNat with h | h <;> simp [h]
theorem byte_bits {c : Int} {i : Nat} (h0 : 0 ≤ c) (h1 : c ≤ 255) (hi : i < 8) : ishr .u32 (IntKind.u32.wrap c) (i : Int) = (((BitVec.ofNat 32 c.toNat) >>> i).toNat : Int) := by
  obtain ⟨n, rfl⟩ := Int.eq_ofNat_of_zero_le h0
  have hn : n < 2 ^ 32 := by omega
  rw [wrapU hn]
  simp only [ishr, IntKind.bits, Int.toNat_natCast]
  rw [Nat.min_eq_left (by omega), Int.fdiv_eq_ediv_of_nonneg _ (by exact_mod_cast Nat.zero_le _)]
  rw [BitVec.toNat_ushiftRight, BitVec.toNat_ofNat, Nat.mod_eq_of_lt hn, Nat.shiftRight_eq_div_pow]
  push_cast; rfl
theorem bit_cond {v : BitVec 32} {c : Int} {i : Nat} (h0 : 0 ≤ c) (h1 : c ≤ 255) (hi : i < 8) :
    (iand .u32 (ixor .u32 (v.toNat : Int) (ishr .u32 (IntKind.u32.wrap c) (i : Int))) 1 == 1) = (v.getLsbD 0 ^^ c.toNat.testBit i) := by
  rw [byte_bits h0 h1 hi, xor_v, odd_v, BitVec.getLsbD_xor]
  congr 1
  simp [BitVec.getLsbD_ushiftRight, BitVec.getLsbD_ofNat]
  omega
theorem cond_ref {v u : BitVec 32} : (iand .u32 (ixor .u32 (v.toNat : Int) (u.toNat : Int)) 1 == 1) = (v.getLsbD 0 ^^ u.getLsbD 0) := by
  rw [xor_v, odd_v, BitVec.getLsbD_xor]
end Crc

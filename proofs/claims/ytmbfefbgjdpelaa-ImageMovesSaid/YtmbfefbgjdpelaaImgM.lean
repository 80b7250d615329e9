/- turned from PagM by pagv.py. -/
import Derived.Test.YtmbfefbgjdpelaaFn
import Derived.Test.YtmbfefbgjdpelaaKxCp
import Derived.Test.YtmbfefbgjdpelaaKxIn
import Derived.Test.YtmbfefbgjdpelaaKxNu
set_option linter.unusedVariables false
set_option linter.unusedSimpArgs false
namespace Go.Proofs.Ytmbfefbgjdpelaa
open Go Go.Kx

section
variable {T : Type} (ne : T → T → Bool)
def hitAt (l : List T) (k : Int) (v : T) : Bool := decide (0 ≤ k ∧ k < l.length) && (match l[k.toNat]? with | some w => ne w v | none => false)
def setL (l : List T) (k : Int) (v : T) : List T := if hitAt ne l k v then l.set k.toNat v else l
def setD (per : Int) (l : List T) (d : List Bool) (k : Int) (v : T) : List Bool := if hitAt ne l k v then d.set (k / per).toNat true else d
theorem setL_len (l : List T) (k : Int) (v : T) : (setL ne l k v).length = l.length := by unfold setL; split <;> simp
theorem setD_len (per : Int) (l : List T) (d : List Bool) (k : Int) (v : T) : (setD ne per l d k v).length = d.length := by unfold setD; split <;> simp
end
/-- How many pages. -/
def pgs (n per : Int) : Int := (n + per - 1) / per
structure PgOk (n : Nat) (per : Int) (d : List Bool) : Prop where
  n1 : 1 ≤ n
  n2 : n ≤ 65536
  p1 : 1 ≤ per
  p2 : per ≤ 65536
  d : (d.length : Int) = pgs n per
theorem pgs_pos {n per : Int} (hn : 1 ≤ n) (hp : 1 ≤ per) : 1 ≤ pgs n per := by
  unfold pgs
  exact (Int.le_ediv_iff_mul_le (by omega)).2 (by omega)
theorem pgs_le {n per : Int} (hn : 1 ≤ n) (hp : 1 ≤ per) : pgs n per ≤ n := by
  unfold pgs
  refine Int.ediv_le_of_le_mul (by omega) ?_
  have : n * per = n * (per - 1) + n := by rw [Int.mul_sub]; omega
  have h2 : 1 * (per - 1) ≤ n * (per - 1) := Int.mul_le_mul_of_nonneg_right hn (by omega)
  omega
theorem page_lt {n per k : Int} (hp : 1 ≤ per) (h0 : 0 ≤ k) (hk : k < pgs n per) : k * per < n := by
  unfold pgs at hk
  have h1 : (k + 1) ≤ (n + per - 1) / per := by omega
  have h2 := (Int.le_ediv_iff_mul_le (by omega)).1 h1
  rw [Int.add_mul, Int.one_mul] at h2
  omega
theorem in_page {n per k : Int} (hp : 1 ≤ per) (h0 : 0 ≤ k) (hk : k < n) : 0 ≤ k / per ∧ k / per < pgs n per := by
  refine ⟨Int.ediv_nonneg h0 (by omega), ?_⟩
  unfold pgs
  have : k / per + 1 ≤ (n + per - 1) / per := by
    refine (Int.le_ediv_iff_mul_le (by omega)).2 ?_
    have := Int.ediv_mul_le k (show per ≠ 0 by omega)
    rw [Int.add_mul, Int.one_mul]; omega
  omega
abbrev pgRow (s t : Sl) (per : Int) : List Value := [Sl.v s, .int .i64 per, Sl.v t]
theorem wrap_succ {k : Nat} (h : k < 2 ^ 60) : IntKind.wrap .i64 ((k : Int) + 1) = ((k + 1 : Nat) : Int) := by rw [wrap64_id (by omega) (by omega)]; push_cast; rfl
theorem tdiv_div {a b : Int} (ha : 0 ≤ a) : Int.tdiv a b = a / b := Int.tdiv_eq_ediv_of_nonneg ha
/-- The dirty pages, rising. -/
def dirtyTo (d : List Bool) (k : Nat) : List Int := (List.range k).filterMap fun (i : Nat) => if d.getD i false then some (i : Int) else none
def dirtyL (d : List Bool) : List Int := dirtyTo d d.length
theorem dirtyTo_none {d : List Bool} {k : Nat} (h : d.getD k false = false) : dirtyTo d (k + 1) = dirtyTo d k := by simp only [dirtyTo, List.range_succ, List.filterMap_append, List.filterMap_cons, h]; simp
theorem dirtyTo_some {d : List Bool} {k : Nat} (h : d.getD k false = true) : dirtyTo d (k + 1) = dirtyTo d k ++ [(k : Int)] := by simp only [dirtyTo, List.range_succ, List.filterMap_append, List.filterMap_cons, h]; simp
theorem dirtyTo_len (d : List Bool) : ∀ k, (dirtyTo d k).length ≤ k
  | 0 => by simp [dirtyTo]
  | k + 1 => by
    have := dirtyTo_len d k
    cases h : d.getD k false with
    | false => rw [dirtyTo_none h]; omega
    | true => rw [dirtyTo_some h, List.length_append, List.length_singleton]; omega
theorem dirtyTo_pre (d : List Bool) (k : Nat) : ∀ e, ∃ r, dirtyTo d (k + e) = dirtyTo d k ++ r
  | 0 => ⟨[], by simp⟩
  | e + 1 => by
    obtain ⟨r, hr⟩ := dirtyTo_pre d k e
    cases h : d.getD (k + e) false with
    | false => exact ⟨r, by rw [← Nat.add_assoc, dirtyTo_none h, hr]⟩
    | true => exact ⟨r ++ [_], by rw [← Nat.add_assoc, dirtyTo_some h, hr, List.append_assoc]⟩
/-- A page's values. -/
def pageOf {T : Type} (l : List T) (per : Int) (d : List Bool) (k : Int) : List T := if 0 ≤ k ∧ k < d.length then (l.drop (k * per).toNat).take per.toNat else []

theorem wrapu_id {x : Int} (a : 0 ≤ x) (b : x < 18446744073709551616) : IntKind.wrap .u64 x = x := by
  have hb : (2 : Int) ^ IntKind.u64.bits = 18446744073709551616 := rfl
  simp only [IntKind.wrap, hb, IntKind.signed, Bool.false_and, Bool.false_eq_true, if_false]
  omega
theorem low32 {n : Int} (h0 : 0 ≤ n) (h1 : n < 4294967296) : iand .u64 n 4294967295 = n := by
  obtain ⟨k, rfl⟩ := Int.eq_ofNat_of_zero_le h0
  have h2 : (BitVec.ofInt 64 (k : Int) &&& BitVec.ofInt 64 4294967295).toNat = k := by
    rw [BitVec.toNat_and]
    have e2 : (BitVec.ofInt 64 4294967295).toNat = 2 ^ 32 - 1 := rfl
    rw [e2, Nat.and_two_pow_sub_one_eq_mod]
    simp only [BitVec.toNat_ofInt]
    omega
  show IntKind.u64.wrap ((BitVec.ofInt 64 (k : Int) &&& BitVec.ofInt 64 4294967295).toNat : Int) = _
  rw [h2, wrapu_id (by omega) (by omega)]
theorem high32 {n : Int} (h0 : 0 ≤ n) (h1 : n < 4294967296) : ishr .u64 n 32 = 0 := by
  simp only [ishr, IntKind.bits]
  show n.fdiv (2 ^ 32) = 0
  rw [Int.fdiv_eq_ediv_of_nonneg _ (by decide)]
  exact Int.ediv_eq_zero_of_lt h0 (by simpa using h1)
theorem mul_one {n : Int} (h0 : 0 ≤ n) (h1 : n < 4294967296) {H : PH} {Q : Int → Int → PH → Prop} (hQ : Q 0 n H) : bits_Mul 1 n H Q := by
  have e0 : iand .u64 0 4294967295 = 0 := low32 (by decide) (by decide)
  have e1 : iand .u64 1 4294967295 = 1 := low32 (by decide) (by decide)
  have f0 : ishr .u64 0 32 = 0 := high32 (by decide) (by decide)
  have f1 : ishr .u64 1 32 = 0 := high32 (by decide) (by decide)
  have w0 : IntKind.wrap .u64 0 = 0 := wrapu_id (by decide) (by decide)
  have wn : IntKind.wrap .u64 n = n := wrapu_id h0 (by omega)
  unfold bits_Mul bits_Mul64
  simp only [e1, f1, low32 h0 h1, high32 h0 h1, Int.one_mul, Int.zero_mul, Int.mul_zero, w0, wn, Int.add_zero, Int.zero_add, e0, f0]
  exact hQ
end Go.Proofs.Ytmbfefbgjdpelaa

/- WHAT EACH OPERATION DOES: quiet ones (OpQ), and those that turn or make memory (OpDo). -/
import Derived.Test.YtegnpplffhkjhaaKxC
set_option linter.unusedVariables false
set_option linter.unusedSimpArgs false
namespace Go.Kx
section
variable {P : Program} {ρ : Env} {T H : PH} {d : Option Nat} {ty : TypeId} {p : String} {af : Array Edge} {g : Option (Nat × Bool)}

/-! ### Plain values -/
theorem q_move {x : Operand} {v : Value} (h : ev ρ x = v) : OpQ P ρ ⟨d, .move x, ty, p, af, g⟩ H v := ⟨rfl, fun T w ho => by simp [execOp, h, Sem.run_pure]⟩
theorem q_assign {x : Operand} {v : Value} (h : ev ρ x = v) : OpQ P ρ ⟨d, .assign x, ty, p, af, g⟩ H v := ⟨rfl, fun T w ho => by simp [execOp, h, Sem.run_pure]⟩
theorem q_pickT {c x y : Operand} {v : Value} (hc : ev ρ c = .bool true) (h : ev ρ x = v) : OpQ P ρ ⟨d, .pick c x y, ty, p, af, g⟩ H v := ⟨rfl, fun T w ho => by simp [execOp, h, hc, asBool, Sem.run_pure, Sem.run_bind, Result.andThen]⟩
theorem q_pickF {c x y : Operand} {v : Value} (hc : ev ρ c = .bool false) (h : ev ρ y = v) : OpQ P ρ ⟨d, .pick c x y, ty, p, af, g⟩ H v := ⟨rfl, fun T w ho => by simp [execOp, h, hc, asBool, Sem.run_pure, Sem.run_bind, Result.andThen]⟩

section arith
variable {x y : Operand} {tx tyy : TypeId} {kk : IntKind} {a b : Int}
theorem q_add (hx : ev ρ x = .int kk a) (hy : ev ρ y = .int kk b) : OpQ P ρ ⟨d, .binOp .add tx x y tyy, ty, p, af, g⟩ H (.int kk (kk.wrap (a + b))) := ⟨rfl, fun T w ho => by simp [execOp, hx, hy, eqGuard, binOp, Op.intArith, Sem.run_pure, Sem.run_bind, Result.andThen]⟩
theorem q_sub (hx : ev ρ x = .int kk a) (hy : ev ρ y = .int kk b) : OpQ P ρ ⟨d, .binOp .sub tx x y tyy, ty, p, af, g⟩ H (.int kk (kk.wrap (a - b))) := ⟨rfl, fun T w ho => by simp [execOp, hx, hy, eqGuard, binOp, Op.intArith, Sem.run_pure, Sem.run_bind, Result.andThen]⟩
theorem q_mul (hx : ev ρ x = .int kk a) (hy : ev ρ y = .int kk b) : OpQ P ρ ⟨d, .binOp .mul tx x y tyy, ty, p, af, g⟩ H (.int kk (kk.wrap (a * b))) := ⟨rfl, fun T w ho => by simp [execOp, hx, hy, eqGuard, binOp, Op.intArith, Sem.run_pure, Sem.run_bind, Result.andThen]⟩
theorem q_quo (hb : b ≠ 0) (hx : ev ρ x = .int kk a) (hy : ev ρ y = .int kk b) : OpQ P ρ ⟨d, .binOp .quo tx x y tyy, ty, p, af, g⟩ H (.int kk (kk.wrap (a.tdiv b))) := ⟨rfl, fun T w ho => by simp [execOp, hx, hy, hb, eqGuard, binOp, Op.intDiv, Sem.run_pure, Sem.run_bind, Result.andThen]⟩
theorem q_rem (hb : b ≠ 0) (hx : ev ρ x = .int kk a) (hy : ev ρ y = .int kk b) : OpQ P ρ ⟨d, .binOp .rem tx x y tyy, ty, p, af, g⟩ H (.int kk (a.tmod b)) := ⟨rfl, fun T w ho => by simp [execOp, hx, hy, hb, eqGuard, binOp, Op.intDiv, Sem.run_pure, Sem.run_bind, Result.andThen]⟩
/-- The bits of integers. -/
def iand (k : IntKind) (a b : Int) : Int := k.wrap (BitVec.ofInt k.bits a &&& BitVec.ofInt k.bits b).toNat
def ior (k : IntKind) (a b : Int) : Int := k.wrap (BitVec.ofInt k.bits a ||| BitVec.ofInt k.bits b).toNat
def ixor (k : IntKind) (a b : Int) : Int := k.wrap (BitVec.ofInt k.bits a ^^^ BitVec.ofInt k.bits b).toNat
def iandn (k : IntKind) (a b : Int) : Int := k.wrap (BitVec.ofInt k.bits a &&& ~~~BitVec.ofInt k.bits b).toNat
def ishl (k : IntKind) (a b : Int) : Int := k.wrap (a * 2 ^ (min b.toNat k.bits))
def ishr (k : IntKind) (a b : Int) : Int := a.fdiv (2 ^ (min b.toNat k.bits))
theorem q_and (hx : ev ρ x = .int kk a) (hy : ev ρ y = .int kk b) : OpQ P ρ ⟨d, .binOp .and tx x y tyy, ty, p, af, g⟩ H (.int kk (iand kk a b)) := ⟨rfl, fun T w ho => by simp [execOp, hx, hy, eqGuard, binOp, Op.intBits, Sem.run_pure, Sem.run_bind, Result.andThen, iand]⟩
theorem q_or (hx : ev ρ x = .int kk a) (hy : ev ρ y = .int kk b) : OpQ P ρ ⟨d, .binOp .or tx x y tyy, ty, p, af, g⟩ H (.int kk (ior kk a b)) := ⟨rfl, fun T w ho => by simp [execOp, hx, hy, eqGuard, binOp, Op.intBits, Sem.run_pure, Sem.run_bind, Result.andThen, ior]⟩
theorem q_xor (hx : ev ρ x = .int kk a) (hy : ev ρ y = .int kk b) : OpQ P ρ ⟨d, .binOp .xor tx x y tyy, ty, p, af, g⟩ H (.int kk (ixor kk a b)) := ⟨rfl, fun T w ho => by simp [execOp, hx, hy, eqGuard, binOp, Op.intBits, Sem.run_pure, Sem.run_bind, Result.andThen, ixor]⟩
theorem q_andNot (hx : ev ρ x = .int kk a) (hy : ev ρ y = .int kk b) : OpQ P ρ ⟨d, .binOp .andNot tx x y tyy, ty, p, af, g⟩ H (.int kk (iandn kk a b)) := ⟨rfl, fun T w ho => by simp [execOp, hx, hy, eqGuard, binOp, Op.intBits, Sem.run_pure, Sem.run_bind, Result.andThen, iandn]⟩
theorem q_shl {k2 : IntKind} (hb : 0 ≤ b) (hx : ev ρ x = .int kk a) (hy : ev ρ y = .int k2 b) : OpQ P ρ ⟨d, .binOp .shl tx x y tyy, ty, p, af, g⟩ H (.int kk (ishl kk a b)) := ⟨rfl, fun T w ho => by
  have : ¬ b < 0 := by omega
  simp [execOp, hx, hy, eqGuard, binOp, Op.shift, this, Sem.run_pure, Sem.run_bind, Result.andThen, ishl]⟩
theorem q_shr {k2 : IntKind} (hb : 0 ≤ b) (hx : ev ρ x = .int kk a) (hy : ev ρ y = .int k2 b) : OpQ P ρ ⟨d, .binOp .shr tx x y tyy, ty, p, af, g⟩ H (.int kk (ishr kk a b)) := ⟨rfl, fun T w ho => by
  have : ¬ b < 0 := by omega
  simp [execOp, hx, hy, eqGuard, binOp, Op.shift, this, Sem.run_pure, Sem.run_bind, Result.andThen, ishr]⟩
theorem q_eql (hx : ev ρ x = .int kk a) (hy : ev ρ y = .int kk b) : OpQ P ρ ⟨d, .binOp .eql tx x y tyy, ty, p, af, g⟩ H (.bool (a == b)) := ⟨rfl, fun T w ho => by simp [execOp, hx, hy, eqGuard, binOp, Op.intCmp, Sem.run_pure, Sem.run_bind, Result.andThen]⟩
theorem q_neq (hx : ev ρ x = .int kk a) (hy : ev ρ y = .int kk b) : OpQ P ρ ⟨d, .binOp .neq tx x y tyy, ty, p, af, g⟩ H (.bool (a != b)) := ⟨rfl, fun T w ho => by simp [execOp, hx, hy, eqGuard, binOp, Op.intCmp, Sem.run_pure, Sem.run_bind, Result.andThen]⟩
theorem q_lss (hx : ev ρ x = .int kk a) (hy : ev ρ y = .int kk b) : OpQ P ρ ⟨d, .binOp .lss tx x y tyy, ty, p, af, g⟩ H (.bool (decide (a < b))) := ⟨rfl, fun T w ho => by simp [execOp, hx, hy, eqGuard, binOp, Op.intCmp, Sem.run_pure, Sem.run_bind, Result.andThen]⟩
theorem q_leq (hx : ev ρ x = .int kk a) (hy : ev ρ y = .int kk b) : OpQ P ρ ⟨d, .binOp .leq tx x y tyy, ty, p, af, g⟩ H (.bool (decide (a ≤ b))) := ⟨rfl, fun T w ho => by simp [execOp, hx, hy, eqGuard, binOp, Op.intCmp, Sem.run_pure, Sem.run_bind, Result.andThen]⟩
theorem q_gtr (hx : ev ρ x = .int kk a) (hy : ev ρ y = .int kk b) : OpQ P ρ ⟨d, .binOp .gtr tx x y tyy, ty, p, af, g⟩ H (.bool (decide (b < a))) := ⟨rfl, fun T w ho => by simp [execOp, hx, hy, eqGuard, binOp, Op.intCmp, Sem.run_pure, Sem.run_bind, Result.andThen]⟩
theorem q_geq (hx : ev ρ x = .int kk a) (hy : ev ρ y = .int kk b) : OpQ P ρ ⟨d, .binOp .geq tx x y tyy, ty, p, af, g⟩ H (.bool (decide (b ≤ a))) := ⟨rfl, fun T w ho => by simp [execOp, hx, hy, eqGuard, binOp, Op.intCmp, Sem.run_pure, Sem.run_bind, Result.andThen]⟩
theorem q_neg (hx : ev ρ x = .int kk a) : OpQ P ρ ⟨d, .unOp .neg tx x, ty, p, af, g⟩ H (.int kk (kk.wrap (0 - a))) := ⟨rfl, fun T w ho => by simp [execOp, hx, Op.unary, Op.intArith, Sem.run_pure, Sem.run_bind, Result.andThen]⟩
theorem q_com (hx : ev ρ x = .int kk a) : OpQ P ρ ⟨d, .unOp .xor tx x, ty, p, af, g⟩ H (.int kk (ixor kk (if kk.signed then -1 else kk.max) a)) := ⟨rfl, fun T w ho => by simp [execOp, hx, Op.unary, Op.intBits, Sem.run_pure, Sem.run_bind, Result.andThen, ixor]⟩
theorem q_not {c : Bool} (hx : ev ρ x = .bool c) : OpQ P ρ ⟨d, .unOp .not tx x, ty, p, af, g⟩ H (.bool (!c)) := ⟨rfl, fun T w ho => by simp [execOp, hx, Op.unary, Sem.run_pure, Sem.run_bind, Result.andThen]⟩
end arith

/-! ### What the program's tables say -/
def IsInt (P : Program) (t : TypeId) (k : IntKind) : Prop := P.underlying t = some (.int k)
theorem run_under {t : TypeId} {x : TypeDesc} {w : World} (h : P.underlying t = some x) : (underlying t).run P w = .ok x w := by
  simp [underlying, program, Sem.run_bind, Sem.run, Result.andThen, h, Sem.run_pure]
theorem run_size {t : TypeId} {s : Nat} {w : World} (h : (P.info? t).map (·.size) = some s) : (sizeOf t).run P w = .ok s w := by
  cases hi : P.info? t with
  | none => rw [hi] at h; cases h
  | some i => rw [hi] at h; cases h; simp [sizeOf, typeInfo, program, Sem.run_bind, Sem.run, Result.andThen, hi, Sem.run_pure]
theorem run_info {t : TypeId} {i : TypeInfo} {w : World} (h : P.info? t = some i) : (typeInfo t).run P w = .ok i w := by
  simp [typeInfo, program, Sem.run_bind, Sem.run, Result.andThen, h, Sem.run_pure]

theorem q_conv {src dst : TypeId} {x : Operand} {ks kd : IntKind} {dsrc : TypeDesc} {a : Int} (h1 : P.underlying src = some dsrc) (h2 : P.underlying dst = some (.int kd)) (hx : ev ρ x = .int ks a) :
    OpQ P ρ ⟨d, .convert src dst x, ty, p, af, g⟩ H (.int kd (kd.wrap a)) := ⟨rfl, fun T w ho => by
  simp [execOp, hx, convert, Sem.run_bind, run_under h1, run_under h2, Result.andThen, Conv.intToInt, Sem.run_pure]⟩

/-! ### Addresses -/
theorem q_nilCheck {x : Operand} {a : Addr} (hx : ev ρ x = .pointer (some a)) : OpQ P ρ ⟨d, .nilCheck x, ty, p, af, g⟩ H (.pointer (some a)) := ⟨rfl, fun T w ho => by
  simp [execOp, hx, Sem.run_pure]⟩
theorem q_nilCheckF {x : Operand} {f : FuncId} {fi ca : Array Value} (hx : ev ρ x = .func (.func f) fi ca) : OpQ P ρ ⟨d, .nilCheck x, ty, p, af, g⟩ H (.func (.func f) fi ca) := ⟨rfl, fun T w ho => by
  simp [execOp, hx, Sem.run_pure]⟩
theorem q_nilCheckY {x : Operand} {f : Nat} {fi ca : Array Value} (hx : ev ρ x = .func (.yield f) fi ca) : OpQ P ρ ⟨d, .nilCheck x, ty, p, af, g⟩ H (.func (.yield f) fi ca) := ⟨rfl, fun T w ho => by
  simp [execOp, hx, Sem.run_pure]⟩

/-- Field i of struct type s lies so many cells from its beginning (and takes some). -/
def FieldOff (P : Program) (s i off : Nat) : Prop := ∃ fs f sz, P.underlying s = some (.struct fs) ∧ fs[i]? = some f ∧ f.offset = off ∧ (P.info? f.type).map (·.size) = some sz ∧ sz ≠ 0
theorem q_fieldAddr {s i off : Nat} {x : Operand} {a : Addr} (hf : FieldOff P s i off) (hx : ev ρ x = .pointer (some a)) : OpQ P ρ ⟨d, .fieldAddr s x i, ty, p, af, g⟩ H (.pointer (some (a.add off))) := ⟨rfl, fun T w ho => by
  obtain ⟨fs, f, sz, h1, h2, h3, h4, h5⟩ := hf
  simp [execOp, hx, Instr.fieldAt, Sem.run_bind, run_under h1, h2, Result.andThen, Instr.sureAddr, Sem.run_pure, fieldPlace, run_size h4, h5, h3]⟩

/-- A slice type's elements: their type, their size in cells. -/
def SliceOf (P : Program) (t e size : Nat) : Prop := P.underlying t = some (.slice e) ∧ (P.info? e).map (·.size) = some size
def ArrayOf (P : Program) (t len e size : Nat) : Prop := P.underlying t = some (.array len e) ∧ (P.info? e).map (·.size) = some size
theorem q_indexAddr {t e size : Nat} {x ix : Operand} {a : Addr} {len cap : Nat} {ik : IntKind} {i : Int} (hs : SliceOf P t e size) (h0 : 0 ≤ i) (h1 : i < len)
    (hx : ev ρ x = .slice (some a) len cap) (hi : ev ρ ix = .int ik i) : OpQ P ρ ⟨d, .indexAddr t x ix, ty, p, af, g⟩ H (.pointer (some (a.add (i.toNat * size)))) := ⟨rfl, fun T w ho => by
  simp [execOp, hx, hi, Instr.indexAt, asIntOf, Sem.run_bind, run_under hs.1, Result.andThen, Sem.run_pure, run_size hs.2, h0, h1]⟩
theorem q_indexAddrA {t n e size : Nat} {x ix : Operand} {a : Addr} {ik : IntKind} {i : Int} (hs : ArrayOf P t n e size) (h0 : 0 ≤ i) (h1 : i < n)
    (hx : ev ρ x = .pointer (some a)) (hi : ev ρ ix = .int ik i) : OpQ P ρ ⟨d, .indexAddr t x ix, ty, p, af, g⟩ H (.pointer (some (a.add (i.toNat * size)))) := ⟨rfl, fun T w ho => by
  simp [execOp, hx, hi, Instr.indexAt, asIntOf, Sem.run_bind, run_under hs.1, Result.andThen, Sem.run_pure, run_size hs.2, h0, h1, Instr.sureAddr]⟩

/-! ### Cells -/
def cellAt (H : PH) (a : Addr) : Option Value := match H a.block with
  | some (.cells c _ _) => if a.spot.isSome then none else c[a.off]?
  | _ => none
def cellsAt (H : PH) (a : Addr) (n : Nat) : Option (List Value) := if n = 0 then some [] else match H a.block with
  | some (.cells c _ _) => if a.spot.isSome then none else if a.off + n ≤ c.size then some ((c.toList.drop a.off).take n) else none
  | _ => none
theorem cell_of {w : World} (ho : Own H T w) {a : Addr} {v : Value} (h : cellAt H a = some v) : w.cell? a = some v := by
  unfold cellAt at h
  split at h
  · rename_i c e f hb
    simp only [World.cell?, ho.sub _ _ hb]; exact h
  · cases h
theorem run_load {w : World} (ho : Own H T w) {a : Addr} {v : Value} (h : cellAt H a = some v) : (load a).run P w = .ok v w := by
  simp [load, Sem.run, cell_of ho h]

/-- No struct, no array. -/
def Scalar (P : Program) (t : TypeId) : Prop := ∃ x, P.underlying t = some x ∧ (match x with | .struct _ => False | .array _ _ => False | _ => True)
def Aggr (P : Program) (t n : Nat) : Prop := (∃ x, P.underlying t = some x ∧ (match x with | .struct _ => True | .array _ _ => True | _ => False)) ∧ (P.info? t).map (·.size) = some n
theorem run_isAgg_no {t : TypeId} {w : World} (h : Scalar P t) : (isAgg t).run P w = .ok false w := by
  obtain ⟨x, h1, h2⟩ := h
  simp only [isAgg, Sem.run_bind, run_under h1, Result.andThen]
  cases x <;> simp_all [Sem.run_pure]
theorem run_isAgg_yes {t n : Nat} {w : World} (h : Aggr P t n) : (isAgg t).run P w = .ok true w := by
  obtain ⟨⟨x, h1, h2⟩, _⟩ := h
  simp only [isAgg, Sem.run_bind, run_under h1, Result.andThen]
  cases x <;> simp_all [Sem.run_pure]
theorem q_load {t : TypeId} {x : Operand} {a : Addr} {v : Value} (hs : Scalar P t) (hx : ev ρ x = .pointer (some a)) (hv : cellAt H a = some v) : OpQ P ρ ⟨d, .load t x, ty, p, af, g⟩ H v := ⟨rfl, fun T w ho => by
  simp [execOp, hx, Instr.loadAt, Instr.sureAddr, loadVar, Sem.run_bind, run_isAgg_no hs, Result.andThen, Sem.run_pure, run_load ho hv]⟩

theorem add_zero' (a : Addr) : a.add 0 = a := by simp [Addr.add]
theorem add_block (a : Addr) (n : Nat) : (a.add n).block = a.block := by unfold Addr.add; split <;> rfl
theorem add_off (a : Addr) (n : Nat) : (a.add n).off = a.off + n := by unfold Addr.add; split <;> simp_all
theorem add_spot (a : Addr) (n : Nat) (h : a.spot = none) : (a.add n).spot = none := by unfold Addr.add; split <;> simp_all
theorem add_mk (b o n : Nat) : (⟨b, o, none⟩ : Addr).add n = ⟨b, o + n, none⟩ := by unfold Addr.add; split <;> simp_all

theorem cellsAt_cell {a : Addr} {n : Nat} {cs : List Value} (h : cellsAt H a n = some cs) : cs.length = n ∧ ∀ j, j < n → ∃ v, cs[j]? = some v ∧ cellAt H (a.add j) = some v := by
  unfold cellsAt at h
  split at h
  · rename_i h0
    subst h0; cases h
    exact ⟨rfl, fun j hj => by omega⟩
  split at h
  · rename_i c e f hb
    split at h
    · cases h
    · rename_i hs
      split at h
      · rename_i hle
        cases h
        refine ⟨by simp; omega, fun j hj => ?_⟩
        have hlt : a.off + j < c.size := by omega
        refine ⟨c[a.off + j], by simp [hj, hlt], ?_⟩
        have hsp : (a.add j).spot = none := add_spot a j (by simpa using hs)
        simp [cellAt, add_block, hb, hsp, add_off, hlt]
      · cases h
  · cases h
theorem run_loadCells {w : World} (ho : Own H T w) {a : Addr} : ∀ (n i : Nat) (acc : Array Value) (cs : List Value), cs.length = n → (∀ j, j < n → ∃ v, cs[j]? = some v ∧ cellAt H (a.add (i + j)) = some v) →
    (loadCellsFrom a i n acc).run P w = .ok (acc ++ cs.toArray) w
  | 0, i, acc, cs, hl, h => by
    cases cs with
    | nil => simp [loadCellsFrom, Sem.run_pure]
    | cons => cases hl
  | n + 1, i, acc, cs, hl, h => by
    cases cs with
    | nil => cases hl
    | cons v cs =>
      obtain ⟨v', hv', hc⟩ := h 0 (by omega)
      simp at hv'; subst hv'
      simp only [Nat.add_zero] at hc
      have ih := run_loadCells ho (a := a) n (i + 1) (acc.push v) cs (by simpa using hl) (fun j hj => by
        obtain ⟨u, hu, hcu⟩ := h (j + 1) (by omega)
        exact ⟨u, by simpa using hu, by rw [show i + 1 + j = i + (j + 1) by omega]; exact hcu⟩)
      simp only [loadCellsFrom, Sem.run_bind, run_load ho hc, Result.andThen, ih]
      simp
theorem run_loadCells' {w : World} (ho : Own H T w) {a : Addr} {n : Nat} {cs : List Value} (h : cellsAt H a n = some cs) : (loadCells a n).run P w = .ok cs.toArray w := by
  obtain ⟨h1, h2⟩ := cellsAt_cell h
  have := run_loadCells (P := P) ho n 0 #[] cs h1 (by simpa using h2)
  simpa [loadCells] using this
theorem q_loadA {t n : Nat} {x : Operand} {a : Addr} {cs : List Value} (hs : Aggr P t n) (hx : ev ρ x = .pointer (some a)) (hv : cellsAt H a n = some cs) : OpQ P ρ ⟨d, .load t x, ty, p, af, g⟩ H (.agg cs.toArray) := ⟨rfl, fun T w ho => by
  simp [execOp, hx, Instr.loadAt, Instr.sureAddr, loadVar, Sem.run_bind, run_isAgg_yes hs, Result.andThen, Sem.run_pure, run_size hs.2, run_loadCells' ho hv]⟩

/-! ### Parts of structs and arrays -/
def FieldIs (P : Program) (s i off t : Nat) : Prop := ∃ fs f, P.underlying s = some (.struct fs) ∧ fs[i]? = some f ∧ f.offset = off ∧ f.type = t
theorem q_field {s i off t : Nat} {x : Operand} {cs : List Value} {v : Value} (hf : FieldIs P s i off t) (ht : Scalar P t) (hx : ev ρ x = .agg cs.toArray) (hv : cs[off]? = some v) : OpQ P ρ ⟨d, .field s x i, ty, p, af, g⟩ H v := ⟨rfl, fun T w ho => by
  obtain ⟨fs, f, h1, h2, h3, h4⟩ := hf
  simp [execOp, hx, Instr.field, Sem.run_bind, run_under h1, h2, Result.andThen, asAgg, Sem.run_pure, part, h3, h4, run_isAgg_no ht, hv]⟩
theorem q_fieldA {s i off t n : Nat} {x : Operand} {cs : List Value} (hf : FieldIs P s i off t) (ht : Aggr P t n) (hx : ev ρ x = .agg cs.toArray) : OpQ P ρ ⟨d, .field s x i, ty, p, af, g⟩ H (.agg ((cs.drop off).take n).toArray) := ⟨rfl, fun T w ho => by
  obtain ⟨fs, f, h1, h2, h3, h4⟩ := hf
  simp [execOp, hx, Instr.field, Sem.run_bind, run_under h1, h2, Result.andThen, asAgg, Sem.run_pure, part, h3, h4, run_isAgg_yes ht, run_size ht.2]
⟩
theorem q_indexA {t len e : Nat} {x ix : Operand} {cs : List Value} {v : Value} {ik : IntKind} {i : Int} (hs : ArrayOf P t len e 1) (he : Scalar P e) (h0 : 0 ≤ i) (h1 : i < len) (hx : ev ρ x = .agg cs.toArray) (hi : ev ρ ix = .int ik i) (hv : cs[i.toNat]? = some v) :
    OpQ P ρ ⟨d, .index t x ix, ty, p, af, g⟩ H v := ⟨rfl, fun T w ho => by
  simp [execOp, hx, hi, Instr.index, asIntOf, Sem.run_bind, run_under hs.1, Result.andThen, Sem.run_pure, part, h0, h1, run_size hs.2, run_isAgg_no he, hv]⟩
theorem q_extract {x : Operand} {vs : Array Value} {i : Nat} {v : Value} (hx : ev ρ x = .tuple vs) (hv : vs[i]? = some v) : OpQ P ρ ⟨d, .extract x i, ty, p, af, g⟩ H v := ⟨rfl, fun T w ho => by
  simp [execOp, hx, Instr.extract, hv, Sem.run_pure, Sem.run_bind, Result.andThen]⟩

/-! ### Slices -/
theorem map_ev {xs : Array Operand} {vs : List Value} (h : xs.toList.map (ev ρ) = vs) : xs.map (ev ρ) = vs.toArray := by
  apply Array.ext'; simp [h]
theorem q_len {xs : Array Operand} {ats : Array TypeId} {t e : Nat} {a : Option Addr} {len cap : Nat} (hu : P.underlying t = some (.slice e)) (ht : ats[0]? = some t) (hx : xs.toList.map (ev ρ) = [.slice a len cap]) :
    OpQ P ρ ⟨d, .call ⟨.builtin .len, xs, ats⟩, ty, p, af, g⟩ H (.int .i64 len) := ⟨rfl, fun T w ho => by
  simp [execOp, resolve, map_ev hx, Sem.run_bind, Sem.run_pure, Result.andThen, invoke, builtin, Builtin.len_, ht, run_under hu, goInt]⟩
theorem q_cap {xs : Array Operand} {ats : Array TypeId} {t e : Nat} {a : Option Addr} {len cap : Nat} (hu : P.underlying t = some (.slice e)) (ht : ats[0]? = some t) (hx : xs.toList.map (ev ρ) = [.slice a len cap]) :
    OpQ P ρ ⟨d, .call ⟨.builtin .cap, xs, ats⟩, ty, p, af, g⟩ H (.int .i64 cap) := ⟨rfl, fun T w ho => by
  simp [execOp, resolve, map_ev hx, Sem.run_bind, Sem.run_pure, Result.andThen, invoke, builtin, Builtin.cap_, ht, run_under hu, goInt]⟩
theorem q_min2 {xs : Array Operand} {ats : Array TypeId} {k : IntKind} {a b : Int} (hx : xs.toList.map (ev ρ) = [.int k a, .int k b]) :
    OpQ P ρ ⟨d, .call ⟨.builtin .min, xs, ats⟩, ty, p, af, g⟩ H (.int k (if b < a then b else a)) := ⟨rfl, fun T w ho => by
  simp [execOp, resolve, map_ev hx, Sem.run_bind, Sem.run_pure, Result.andThen, invoke, builtin, Builtin.min_, Builtin.min2]⟩
theorem q_max2 {xs : Array Operand} {ats : Array TypeId} {k : IntKind} {a b : Int} (hx : xs.toList.map (ev ρ) = [.int k a, .int k b]) :
    OpQ P ρ ⟨d, .call ⟨.builtin .max, xs, ats⟩, ty, p, af, g⟩ H (.int k (if a < b then b else a)) := ⟨rfl, fun T w ho => by
  simp [execOp, resolve, map_ev hx, Sem.run_bind, Sem.run_pure, Result.andThen, invoke, builtin, Builtin.max_, Builtin.max2]⟩
end
end Go.Kx

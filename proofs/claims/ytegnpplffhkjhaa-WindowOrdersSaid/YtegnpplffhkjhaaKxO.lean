/- EQUALITY. -/
import Derived.Test.YtegnpplffhkjhaaKxN
set_option linter.unusedVariables false
set_option linter.unusedSimpArgs false
namespace Go.Kx
section
variable {P : Program} {ρ : Env} {T H : PH} {d : Option Nat} {ty : TypeId} {p : String} {af : Array Edge} {g : Option (Nat × Bool)} {K : Value → PH → PH → Prop}

/-! ### '==' -/
theorem equal_succ (t : TypeId) (x y : Value) : Op.equal t x y = Op.equalIn (9999 + 1) t x y := rfl
theorem eq_bool {t : TypeId} {a b : Bool} {w : World} (n : Nat) (hu : P.underlying t = some .bool) : (Op.equalIn (n + 1) t (.bool a) (.bool b)).run P w = .ok (a == b) w := by
  simp only [Op.equalIn, Sem.run_bind, run_under hu, Result.andThen, Sem.run_pure]
theorem eq_ptrN {t e : TypeId} {a : Option Addr} {w : World} (n : Nat) (hu : P.underlying t = some (.pointer e)) : (Op.equalIn (n + 1) t (.pointer a) (.pointer none)).run P w = .ok (Option.isNone a) w := by
  cases a <;> simp only [Op.equalIn, Sem.run_bind, run_under hu, Result.andThen, Sem.run_pure, Option.isNone]
theorem eq_slN {t e : TypeId} {a : Option Addr} {l c : Nat} {w : World} (n : Nat) (hu : P.underlying t = some (.slice e)) : (Op.equalIn (n + 1) t (.slice a l c) (.slice none 0 0)).run P w = .ok (Option.isNone a) w := by
  cases a <;> simp only [Op.equalIn, Sem.run_bind, run_under hu, Result.andThen, Sem.run_pure, Option.isNone]
section
variable {x y : Operand} {tx ty2 e : TypeId} {a b : Bool} {pa : Option Addr} {l c : Nat}
theorem q_eqlB (hu : P.underlying tx = some .bool) (hx : ev ρ x = .bool a) (hy : ev ρ y = .bool b) : OpQ P ρ ⟨d, .binOp .eql tx x y ty2, ty, p, af, g⟩ H (.bool (a == b)) := ⟨rfl, fun T w ho => by
  simp only [execOp, hx, hy, eqGuard, binOp, equal_succ, eq_bool 9999 hu, Sem.run_pure, Sem.run_bind, Result.andThen, reduceIte, Bool.not_true, Bool.false_eq_true]⟩
theorem q_neqB (hu : P.underlying tx = some .bool) (hx : ev ρ x = .bool a) (hy : ev ρ y = .bool b) : OpQ P ρ ⟨d, .binOp .neq tx x y ty2, ty, p, af, g⟩ H (.bool (a != b)) := ⟨rfl, fun T w ho => by
  simp only [execOp, hx, hy, eqGuard, binOp, equal_succ, eq_bool 9999 hu, Sem.run_pure, Sem.run_bind, Result.andThen, reduceIte, Bool.not_true, Bool.false_eq_true, bne]⟩
theorem q_eqlPn (hu : P.underlying tx = some (.pointer e)) (hx : ev ρ x = .pointer pa) (hy : ev ρ y = .pointer none) : OpQ P ρ ⟨d, .binOp .eql tx x y ty2, ty, p, af, g⟩ H (.bool (Option.isNone pa)) := ⟨rfl, fun T w ho => by
  simp only [execOp, hx, hy, eqGuard, binOp, equal_succ, eq_ptrN 9999 hu, Sem.run_pure, Sem.run_bind, Result.andThen, reduceIte, Bool.not_true, Bool.false_eq_true]⟩
theorem q_neqPn (hu : P.underlying tx = some (.pointer e)) (hx : ev ρ x = .pointer pa) (hy : ev ρ y = .pointer none) : OpQ P ρ ⟨d, .binOp .neq tx x y ty2, ty, p, af, g⟩ H (.bool (!Option.isNone pa)) := ⟨rfl, fun T w ho => by
  simp only [execOp, hx, hy, eqGuard, binOp, equal_succ, eq_ptrN 9999 hu, Sem.run_pure, Sem.run_bind, Result.andThen, reduceIte, Bool.not_true, Bool.false_eq_true]⟩
theorem q_eqlSn (hu : P.underlying tx = some (.slice e)) (hx : ev ρ x = .slice pa l c) (hy : ev ρ y = .slice none 0 0) : OpQ P ρ ⟨d, .binOp .eql tx x y ty2, ty, p, af, g⟩ H (.bool (Option.isNone pa)) := ⟨rfl, fun T w ho => by
  simp only [execOp, hx, hy, eqGuard, binOp, equal_succ, eq_slN 9999 hu, Sem.run_pure, Sem.run_bind, Result.andThen, reduceIte, Bool.not_true, Bool.false_eq_true]⟩
theorem q_neqSn (hu : P.underlying tx = some (.slice e)) (hx : ev ρ x = .slice pa l c) (hy : ev ρ y = .slice none 0 0) : OpQ P ρ ⟨d, .binOp .neq tx x y ty2, ty, p, af, g⟩ H (.bool (!Option.isNone pa)) := ⟨rfl, fun T w ho => by
  simp only [execOp, hx, hy, eqGuard, binOp, equal_succ, eq_slN 9999 hu, Sem.run_pure, Sem.run_bind, Result.andThen, reduceIte, Bool.not_true, Bool.false_eq_true]⟩
end
end
end Go.Kx

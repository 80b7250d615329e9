/- EQUALITY OF STRUCTS AND ARRAYS, and of strings. -/
import Derived.Test.YtegnpplffhkjhaaKxZ
set_option linter.unusedVariables false
set_option linter.unusedSimpArgs false
namespace Go.Kx
section
variable {P : Program} {ρ : Env} {T H : PH} {d : Option Nat} {ty : TypeId} {p : String} {af : Array Edge} {g : Option (Nat × Bool)} {K : Value → PH → PH → Prop}

def EqIs (P : Program) (n : Nat) (t : TypeId) (x y : Value) (b : Bool) : Prop := ∀ w : World, (Op.equalIn n t x y).run P w = .ok b w
/-- The parts of two aggregates at one place. -/
def EqAt (P : Program) (n : Nat) (t off : Nat) (xs ys : List Value) (b : Bool) : Prop :=
  ∃ x y, (∀ w : World, (part t xs.toArray off).run P w = .ok x w) ∧ (∀ w : World, (part t ys.toArray off).run P w = .ok y w) ∧ EqIs P n t x y b
theorem part_scalar {t off : Nat} {xs : List Value} {v : Value} (hs : Scalar P t) (h : xs[off]? = some v) (w : World) : (part t xs.toArray off).run P w = .ok v w := by
  simp [part, Sem.run_bind, run_isAgg_no hs, Result.andThen, h, Sem.run_pure]
theorem part_aggr {t off n : Nat} {xs : List Value} (hs : Aggr P t n) (w : World) : (part t xs.toArray off).run P w = .ok (.agg ((xs.drop off).take n).toArray) w := by
  simp [part, Sem.run_bind, run_isAgg_yes hs, run_size hs.2, Result.andThen, Sem.run_pure, Nat.add_sub_cancel_left]
theorem eqat_int {n t off : Nat} {xs ys : List Value} {k : IntKind} {a b : Int} (hu : P.underlying t = some (.int k)) (hx : xs[off]? = some (.int k a)) (hy : ys[off]? = some (.int k b)) : EqAt P (n + 1) t off xs ys (a == b) :=
  ⟨_, _, part_scalar ⟨_, hu, trivial⟩ hx, part_scalar ⟨_, hu, trivial⟩ hy, fun w => by simp [Op.equalIn, Sem.run_bind, run_under hu, Result.andThen, Sem.run_pure]⟩
theorem eqat_bool {n t off : Nat} {xs ys : List Value} {a b : Bool} (hu : P.underlying t = some .bool) (hx : xs[off]? = some (.bool a)) (hy : ys[off]? = some (.bool b)) : EqAt P (n + 1) t off xs ys (a == b) :=
  ⟨_, _, part_scalar ⟨_, hu, trivial⟩ hx, part_scalar ⟨_, hu, trivial⟩ hy, fun w => eq_bool n hu⟩
theorem eqat_string {n t off : Nat} {xs ys : List Value} {a b : ByteArray} (hu : P.underlying t = some .string) (hx : xs[off]? = some (.string a)) (hy : ys[off]? = some (.string b)) : EqAt P (n + 1) t off xs ys (a == b) :=
  ⟨_, _, part_scalar ⟨_, hu, trivial⟩ hx, part_scalar ⟨_, hu, trivial⟩ hy, fun w => by simp [Op.equalIn, Sem.run_bind, run_under hu, Result.andThen, Sem.run_pure]⟩
theorem eqat_agg {n t off m : Nat} {xs ys us vs : List Value} {b : Bool} (hs : Aggr P t m) (hx : (xs.drop off).take m = us) (hy : (ys.drop off).take m = vs) (h : EqIs P n t (.agg us.toArray) (.agg vs.toArray) b) : EqAt P n t off xs ys b :=
  ⟨_, _, fun w => by rw [part_aggr hs, hx], fun w => by rw [part_aggr hs, hy], h⟩

def EqFields (P : Program) (n : Nat) (xs ys : List Value) : List Field → List Bool → Prop
  | [], bs => bs = []
  | f :: fs, bs => ∃ b r, bs = b :: r ∧ f.name ≠ "_" ∧ EqAt P n f.type f.offset xs ys b ∧ EqFields P n xs ys fs r
theorem EqFields.cons {n : Nat} {xs ys : List Value} {f : Field} {fs : List Field} {b : Bool} {r : List Bool} (hn : f.name ≠ "_") (h : EqAt P n f.type f.offset xs ys b) (h2 : EqFields P n xs ys fs r) : EqFields P n xs ys (f :: fs) (b :: r) := ⟨b, r, rfl, hn, h, h2⟩
def andAll : List Bool → Bool
  | [] => true
  | [b] => b
  | b :: r => b && andAll r
theorem andAll_cons (b : Bool) (r : List Bool) : andAll (b :: r) = (b && andAll r) := by cases r <;> simp [andAll]
theorem eqis_struct {n t : Nat} {fs : Array Field} {xs ys : List Value} {bs : List Bool} (hu : P.underlying t = some (.struct fs)) (hs : P.stoodInHeld t = false) (h : EqFields P n xs ys fs.toList bs) : EqIs P (n + 1) t (.agg xs.toArray) (.agg ys.toArray) (andAll bs) := by
  intro w
  unfold Op.equalIn
  have hp : Sem.run P program w = .ok P w := rfl
  simp only [Sem.run_bind, run_under hu, Result.andThen, hp, hs, Bool.false_eq_true, if_false]
  rw [← Array.forIn_toList]
  have key : ∀ (fs : List Field) (bs : List Bool), EqFields P n xs ys fs bs → Sem.run P (forIn fs ((none : Option Bool), ()) fun f __s => if f.name ≠ "_" then do
      let a ← part f.type xs.toArray f.offset
      let b ← part f.type ys.toArray f.offset
      let c ← Op.equalIn n f.type a b
      if (!c) = true then pure (ForInStep.done (some false, ())) else pure (ForInStep.yield (none, ()))
      else pure (ForInStep.yield (none, ()))) w = .ok ((if andAll bs then none else some false), ()) w := by
    intro fs
    induction fs with
    | nil => intro bs hb; cases hb; simp [Sem.run_pure, andAll]
    | cons f fs ih =>
      rintro bs ⟨b, r, rfl, hn, ⟨x, y, h1, h2, h3⟩, hr⟩
      rw [List.forIn_cons]
      simp only [hn, ne_eq, not_false_eq_true, if_true, Sem.run_bind, h1, h2, h3 w, Result.andThen]
      cases b
      · simp [Sem.run_pure, andAll_cons]
      · simp only [Bool.not_true, Bool.false_eq_true, if_false, Sem.run_pure]
        rw [ih r hr, andAll_cons, Bool.true_and]
  rw [key _ _ h]
  cases andAll bs <;> rfl
def EqItems (P : Program) (n e size : Nat) (xs ys : List Value) : Nat → List Bool → Prop
  | _, [] => True
  | i, b :: r => EqAt P n e (i * size) xs ys b ∧ EqItems P n e size xs ys (i + 1) r
theorem eqis_array {n t len e size : Nat} {xs ys : List Value} {bs : List Bool} (ha : ArrayOf P t len e size) (hl : bs.length = len) (h : EqItems P n e size xs ys 0 bs) : EqIs P (n + 1) t (.agg xs.toArray) (.agg ys.toArray) (andAll bs) := by
  intro w
  unfold Op.equalIn
  simp only [Sem.run_bind, run_under ha.1, Result.andThen, run_size ha.2]
  simp only [Std.Legacy.Range.forIn_eq_forIn_range', Std.Legacy.Range.size, Nat.sub_zero, Nat.add_one_sub_one, Nat.div_one]
  have key : ∀ (bs : List Bool) (i : Nat), EqItems P n e size xs ys i bs → Sem.run P (forIn (List.range' i bs.length) ((none : Option Bool), ()) fun j __s => do
      let a ← part e xs.toArray (j * size)
      let b ← part e ys.toArray (j * size)
      let c ← Op.equalIn n e a b
      if (!c) = true then pure (ForInStep.done (some false, ())) else pure (ForInStep.yield (none, ()))) w = .ok ((if andAll bs then none else some false), ()) w := by
    intro bs
    induction bs with
    | nil => intro i _; simp [Sem.run_pure, andAll]
    | cons b r ih =>
      rintro i ⟨⟨x, y, h1, h2, h3⟩, hr⟩
      rw [List.length_cons, List.range'_succ, List.forIn_cons]
      simp only [Sem.run_bind, h1, h2, h3 w, Result.andThen]
      cases b
      · simp [Sem.run_pure, andAll_cons]
      · simp only [Bool.not_true, Bool.false_eq_true, if_false, Sem.run_pure]
        rw [ih (i + 1) hr, andAll_cons, Bool.true_and]
  have := key bs 0 h
  rw [hl] at this
  rw [this]
  cases andAll bs <;> rfl

section
variable {x y : Operand} {tx ty2 : TypeId} {xs ys : List Value} {b : Bool}
theorem guard_off {t : TypeId} {op : BinOp} {xs ys : Array Value} {w : World} (hg : P.eqGuardType P.depth t = false) : (eqGuard op t x y (.agg xs) (.agg ys)).run P w = .ok () w := by
  have hp : Sem.run P program w = .ok P w := rfl
  unfold eqGuard
  cases op <;> simp [Sem.run_bind, Sem.run_pure, hp, Result.andThen, hg]
theorem q_eqlA (hg : P.eqGuardType P.depth tx = false) (h : EqIs P (9999 + 1) tx (.agg xs.toArray) (.agg ys.toArray) b) (hx : ev ρ x = .agg xs.toArray) (hy : ev ρ y = .agg ys.toArray) : OpQ P ρ ⟨d, .binOp .eql tx x y ty2, ty, p, af, g⟩ H (.bool b) := ⟨rfl, fun T w ho => by
  simp only [execOp, hx, hy, Sem.run_bind, guard_off hg, Result.andThen, binOp, equal_succ, h w, Sem.run_pure]⟩
theorem q_neqA (hg : P.eqGuardType P.depth tx = false) (h : EqIs P (9999 + 1) tx (.agg xs.toArray) (.agg ys.toArray) b) (hx : ev ρ x = .agg xs.toArray) (hy : ev ρ y = .agg ys.toArray) : OpQ P ρ ⟨d, .binOp .neq tx x y ty2, ty, p, af, g⟩ H (.bool (!b)) := ⟨rfl, fun T w ho => by
  simp only [execOp, hx, hy, Sem.run_bind, guard_off hg, Result.andThen, binOp, equal_succ, h w, Sem.run_pure]⟩
theorem q_eqlS {u v : ByteArray} (hu : P.underlying tx = some .string) (hx : ev ρ x = .string u) (hy : ev ρ y = .string v) : OpQ P ρ ⟨d, .binOp .eql tx x y ty2, ty, p, af, g⟩ H (.bool (u.toList == v.toList)) := ⟨rfl, fun T w ho => by
  simp only [execOp, hx, hy, eqGuard, binOp, Op.stringOp, Sem.run_bind, Sem.run_pure, Result.andThen, reduceIte, Bool.not_true, Bool.false_eq_true]⟩
theorem q_neqS {u v : ByteArray} (hu : P.underlying tx = some .string) (hx : ev ρ x = .string u) (hy : ev ρ y = .string v) : OpQ P ρ ⟨d, .binOp .neq tx x y ty2, ty, p, af, g⟩ H (.bool (!(u.toList == v.toList))) := ⟨rfl, fun T w ho => by
  simp only [execOp, hx, hy, eqGuard, binOp, Op.stringOp, Sem.run_bind, Sem.run_pure, Result.andThen, reduceIte, Bool.not_true, Bool.false_eq_true]⟩
end
end
end Go.Kx

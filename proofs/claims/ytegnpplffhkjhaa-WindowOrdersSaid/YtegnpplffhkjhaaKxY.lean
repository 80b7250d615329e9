/- MORE OPERATIONS AND RULES: results that stand in cells, plans with guards, small structs. -/
import Derived.Test.YtegnpplffhkjhaaKxR
set_option linter.unusedVariables false
set_option linter.unusedSimpArgs false
namespace Go.Kx
section
variable {P : Program} {rd : Option Nat} {n : Nat} {k : List Item} {D : List Deferred} {T H : PH} {Q : Post} {ops : Array Oper} {S : Nat} {L : List Nat} {ρ : Env}

/-- More loads may be taken to be under way. -/
theorem plan_weaken {L2 : List Nat} (hL : L.all (fun x => L2.contains x) = true) (h : GoPlan P rd n ops k S L2 ρ D T H Q) : GoPlan P rd n ops k S L ρ D T H Q := by
  intro hD listed ρ' hl fuel t hc
  refine h hD listed ρ' ⟨hl.size, hl.sub, hl.down, hl.agree, fun i oi hoi hiS hin => ?_⟩ fuel t hc
  refine (hl.lag i oi hoi hiS hin).move (fun _ _ => rfl) (fun _ _ => rfl) (fun hi => ?_) fun _ _ _ h => h
  simp only [List.all_eq_true] at hL
  simpa using hL i hi

/-- One of the results. -/
def rvSem (t : Array Value) : ResultVar → Sem Value
  | .tmp x => pure (t.getD x undef)
  | .cell a ty => do loadVar ty (← asAddr (t.getD a undef))
def RV (P : Program) (ρ : Env) (H : PH) (r : ResultVar) (v : Value) : Prop := ∀ n t T w, TOk n ρ t → Own H T w → (rvSem t r).run P w = .ok v w
theorem rv_tmp {a : Tmp} {v : Value} (hv : ρ a = v) : RV P ρ H (.tmp a) v := fun n t T w ht ho => by
  have := ht.2 a
  rw [hv] at this
  simp only [rvSem, Sem.run_pure, this]
theorem rv_cell {a : Tmp} {ty : TypeId} {ad : Addr} {v : Value} (hs : Scalar P ty) (ha : ρ a = .pointer (some ad)) (hv : cellAt H ad = some v) : RV P ρ H (.cell a ty) v := fun n t T w ht ho => by
  have := ht.2 a
  rw [ha] at this
  simp only [rvSem, this, asAddr, Sem.run_bind, Sem.run_pure, Result.andThen, loadVar, run_isAgg_no hs, Bool.false_eq_true, if_false, run_load ho hv]
theorem rv_cellA {a : Tmp} {ty m : TypeId} {ad : Addr} {cs : List Value} (hs : Aggr P ty m) (ha : ρ a = .pointer (some ad)) (hv : cellsAt H ad m = some cs) : RV P ρ H (.cell a ty) (.agg cs.toArray) := fun n t T w ht ho => by
  have := ht.2 a
  rw [ha] at this
  simp only [rvSem, this, asAddr, Sem.run_bind, Sem.run_pure, Result.andThen, loadVar, run_isAgg_yes hs, if_true, run_size hs.2, run_loadCells' ho hv]
theorem results_eq (fn : Func) (t : Array Value) : results fn t = (do let vs ← fn.results.mapM (rvSem t); pure (if h : vs.size = 1 then vs[0] else .tuple vs)) := by
  unfold results
  congr 1
theorem resOkV1 {fn : Func} {r : ResultVar} {v : Value} (h : fn.results = #[r]) (hv : RV P ρ H r v) : ResOk P fn ρ H v := fun n t T w ht ho => by
  rw [results_eq, h]
  simp [Sem.run_bind, hv n t T w ht ho, Result.andThen, Sem.run_pure]
theorem resOkV2 {fn : Func} {r s : ResultVar} {u v : Value} (h : fn.results = #[r, s]) (hu : RV P ρ H r u) (hv : RV P ρ H s v) : ResOk P fn ρ H (.tuple #[u, v]) := fun n t T w ht ho => by
  rw [results_eq, h]
  simp [Sem.run_bind, hu n t T w ht ho, hv n t T w ht ho, Result.andThen, Sem.run_pure]
theorem resOkV3 {fn : Func} {r s q : ResultVar} {u v x : Value} (h : fn.results = #[r, s, q]) (hu : RV P ρ H r u) (hv : RV P ρ H s v) (hx : RV P ρ H q x) : ResOk P fn ρ H (.tuple #[u, v, x]) := fun n t T w ht ho => by
  rw [results_eq, h]
  simp [Sem.run_bind, hu n t T w ht ho, hv n t T w ht ho, hx n t T w ht ho, Result.andThen, Sem.run_pure]
theorem resOkV4 {fn : Func} {r s q z : ResultVar} {u v x y : Value} (h : fn.results = #[r, s, q, z]) (hu : RV P ρ H r u) (hv : RV P ρ H s v) (hx : RV P ρ H q x) (hy : RV P ρ H z y) : ResOk P fn ρ H (.tuple #[u, v, x, y]) := fun n t T w ht ho => by
  rw [results_eq, h]
  simp [Sem.run_bind, hu n t T w ht ho, hv n t T w ht ho, hx n t T w ht ho, hy n t T w ht ho, Result.andThen, Sem.run_pure]

/-- A small struct or array is read: its cells. -/
def mLdR {α : Type} (enc : α → List Value) (H : PH) (a : Addr) (n : Nat) (K : α → Prop) : Prop := ∃ x, cellsAt H a n = some (enc x) ∧ K x
end
end Go.Kx

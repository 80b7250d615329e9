/- OPERATIONS, ONE BY ONE: what each does to the slots and to the partial heap. -/
import Derived.Test.YtegnpplffhkjhaaKxA
import Derived.WalkKit
set_option linter.unusedVariables false
set_option linter.unusedSimpArgs false
namespace Go.Kx

section
variable {P : Program} {rd : Option Nat} {n : Nat} {k : List Item} {ρ : Env} {D : List Deferred} {T H : PH} {Q : Post} {ops : Array Oper} {l : List Oper} {i : Nat}

/-- The region's operations from the i-th on (l) are still to be done. -/
def GoOps (P : Program) (rd : Option Nat) (n : Nat) (ops : Array Oper) (l : List Oper) (i : Nat) (k : List Item) (ρ : Env) (D : List Deferred) (T H : PH) (Q : Post) : Prop :=
  ops.toList.drop i = l → Go P rd n (.inRegion ops (List.range' i l.length) :: k) ρ D T H Q

theorem Go.region {id : Nat} (hl : ops.toList = l) (h : GoOps P rd n ops l 0 k ρ D T H Q) : Go P rd n (.code (.region id ops false) :: k) ρ D T H Q := by
  refine .step (k2 := .inRegion ops (List.range ops.size) :: k) (fun b cs t w _ => step_lone_go (by simp [stepG, stepG.exec, mk])) ?_
  have := h (by simp [hl])
  rw [List.range_eq_range']
  rwa [show l.length = ops.size by rw [← hl]; simp] at this

theorem GoOps.nil (h : Go P rd n k ρ D T H Q) : GoOps P rd n ops [] i k ρ D T H Q := fun _ =>
  .step (fun b cs t w _ => step_lone_go (by simp [stepG, stepG.exec, mk])) h

def gval (ops : Array Oper) (ρ : Env) (j : Nat) : Option Bool :=
  match (ops[j]?).bind (·.dst) with
  | some d => match ρ d with | .bool b => some b | _ => none
  | none => none
def want (ops : Array Oper) (ρ : Env) (o : Oper) : Bool :=
  match o.guard with
  | none => true
  | some (j, w) => gval ops ρ j == some w

theorem yielded_eq {t : Array Value} (ht : TOk n ρ t) (j : Nat) : yielded ops t j = gval ops ρ j := by
  unfold yielded gval
  cases hj : (ops[j]?).bind (·.dst) with
  | none => simp [hj]
  | some d =>
    simp only [hj, Option.bind_some]
    have h2 := ht.2 d
    rw [Array.getD_eq_getD_getElem?] at h2
    cases hd : t[d]? with
    | none => rw [hd] at h2; simp only [Option.getD_none] at h2; rw [← h2]; rfl
    | some v => rw [hd] at h2; simp only [Option.getD_some] at h2; rw [← h2]; cases v <;> rfl
theorem wanted_eq {t : Array Value} (ht : TOk n ρ t) (o : Oper) : Region.wanted o (yielded ops t) = want ops ρ o := by
  unfold Region.wanted want
  cases o.guard with
  | none => rfl
  | some g => simp [yielded_eq ht]

def isDefer : Op → Bool
  | .defer _ => true
  | _ => false
def putD (ρ : Env) (d : Option Nat) (v : Value) : Env := match d with | some d => upd ρ d v | none => ρ
def tput (t : Array Value) (d : Option Nat) (v : Value) : Array Value := match d with | some d => t.setIfInBounds d v | none => t
theorem TOk.tput {t : Array Value} (h : TOk n ρ t) {d : Option Nat} (hd : ∀ x, d = some x → x < n) (v : Value) : TOk n (putD ρ d v) (tput t d v) := by
  cases d with
  | none => exact h
  | some x => exact h.put (hd x rfl) v

section steps
variable {o : Oper} {is : List Nat} {t : Array Value} {b : Frame} {cs : List Frame} {w : World}
theorem finish_mk (ho : ops[i]? = some o) (v : Value) : (mk b t D (.inRegion ops (i :: is) :: k)).finish v = mk b (tput t o.dst v) D (.inRegion ops is :: k) := by
  simp only [Frame.finish, mk, ho, Option.bind_some]
  cases o.dst <;> rfl
theorem stepG_mk (ho : ops[i]? = some o) (hw : Region.wanted o (yielded ops t) = true) (hnd : isDefer o.op = false) (ht : TOk n ρ t) :
    stepG P true { frame := mk b t D (.inRegion ops (i :: is) :: k), callers := cs, status := .running, dying := none } w =
      stepG.apply P true (mk b t D (.inRegion ops (i :: is) :: k)) cs none (execOp (ev ρ) o) w := by
  have he := eval_mk ht b D (.inRegion ops (i :: is) :: k)
  simp only [mk] at he
  have : ∀ c, o.op ≠ .defer c := fun c hc => by rw [hc] at hnd; cases hnd
  simp only [stepG, stepG.exec, mk, ho, Option.map_some, hw, Option.getD_some, if_true, stepG.oper, Frame.oper?, he]
  split
  · rename_i hd; exact absurd hd (this _)
  · rfl
theorem step_skipped (ho : ops[i]? = some o) (hw : Region.wanted o (yielded ops t) = false) :
    step P (lone (mk b t D (.inRegion ops (i :: is) :: k)) cs w) = .next (lone (mk b (tput t o.dst undef) D (.inRegion ops is :: k)) cs w) := by
  rw [← finish_mk ho]
  exact step_lone_go (by simp [stepG, stepG.exec, mk, ho, hw])
end steps

theorem drop_cons {α : Type} {xs l : List α} {i : Nat} {o : α} (h : xs.drop i = o :: l) : xs[i]? = some o ∧ xs.drop (i + 1) = l := by
  constructor
  · have := congrArg (·[0]?) h; simpa using this
  · rw [← List.drop_drop, h]; rfl


/-- AN OPERATION WHOSE GUARD SAYS NO. -/
theorem GoOps.no {o : Oper} (hw : want ops ρ o = false) (hd : ∀ x, o.dst = some x → x < n) (h : GoOps P rd n ops l (i + 1) k (putD ρ o.dst undef) D T H Q) :
    GoOps P rd n ops (o :: l) i k ρ D T H Q := by
  intro hl b cs t w hb ht ho
  obtain ⟨hi, hl'⟩ := drop_cons hl
  have hi' : ops[i]? = some o := by simpa using hi
  obtain ⟨f, k', t', ρ', D', T2, H2, w2, a1, a2⟩ := h hl' b cs (tput t o.dst undef) w hb (ht.tput hd undef) ho
  refine ⟨f, k', t', ρ', D', T2, H2, w2, .head ?_ a1, a2⟩
  rw [List.length_cons, List.range'_succ]
  exact step_skipped hi' (by rw [wanted_eq ht]; exact hw)

/-! ### Calls -/
def CallsT (P : Program) (f : FuncId) (args : Array Value) (T H : PH) (R : Value → PH → PH → Prop) : Prop :=
  ∀ w, Own H T w → Calls P f args w fun e w' => ∃ v T' H', e = .returned v ∧ Fr H T w H' T' w' ∧ R v T' H'
def CallsH (P : Program) (f : FuncId) (args : Array Value) (H : PH) (R : Value → PH → Prop) : Prop :=
  ∀ w, Own H PH.none w → Calls P f args w fun e w' => ∃ v H', e = .returned v ∧ Fr H PH.none w H' PH.none w' ∧ R v H'
theorem CallsH.beside {f : FuncId} {args : Array Value} {R : Value → PH → Prop} (h : CallsH P f args H R) : CallsT P f args T H fun v T' H' => T' = T ∧ R v H' :=
  fun w ho => (h w ho.noTok).mono fun e w' ⟨v, H', h1, h2, h3⟩ => ⟨v, T, H', h1, h2.beside ho, rfl, h3⟩
theorem CallsH.mono {f : FuncId} {args : Array Value} {R R' : Value → PH → Prop} (h : CallsH P f args H R) (hr : ∀ v H', R v H' → R' v H') : CallsH P f args H R' :=
  fun w ho => (h w ho).mono fun e w' ⟨v, H', h1, h2, h3⟩ => ⟨v, H', h1, h2, hr _ _ h3⟩
theorem CallsT.mono {f : FuncId} {args : Array Value} {R R' : Value → PH → PH → Prop} (h : CallsT P f args T H R) (hr : ∀ v T' H', R v T' H' → R' v T' H') : CallsT P f args T H R' :=
  fun w ho => (h w ho).mono fun e w' ⟨v, T', H', h1, h2, h3⟩ => ⟨v, T', H', h1, h2, hr _ _ _ h3⟩

/-- f is a function with a body. -/
def Body (P : Program) (f : FuncId) : Prop := ∀ args w, (callFunc f args).run P w = .ok (.enter f args) w
theorem body_of {f : FuncId} {fn : Func} {c : Code} (hf : P.funcs[f]? = some fn) (hb : fn.body = some c) (hn : (fn.name == "runtime.NumGoroutine") = false) : Body P f := by
  intro args w
  have hn' : ¬ fn.name = "runtime.NumGoroutine" := by simpa using hn
  simp [callFunc, program, Sem.run_bind, Sem.run, hf, hn', hb, Result.andThen]


/-- A round of the walk's body, called by yield. -/
def Rounds (P : Program) (l : Nat) (fn : FuncId) (tmps : Array Value) (assign body : Code) (w : World) (R : Value → World → Prop) : Prop :=
  ∀ (c : Frame) (cs : List Frame), ∃ v w', R v w' ∧ Steps P (lone (Frame.round l fn tmps assign body .normal) (c :: cs) w) (lone (c.finish v) cs w')

/-- WHAT ONE OPERATION DOES, on slots ρ, in whatever world bears T and H: K takes its value (undef: none), and what T and H have become. -/
def OpDo (P : Program) (ρ : Env) (o : Oper) (T H : PH) (K : Value → PH → PH → Prop) : Prop :=
  isDefer o.op = false ∧ ∀ w, Own H T w →
    (∃ v T' H' w', (execOp (ev ρ) o).run P w = .ok (.value v) w' ∧ Fr H T w H' T' w' ∧ K v T' H') ∨
    (∃ T' H' w', (execOp (ev ρ) o).run P w = .ok .skip w' ∧ Fr H T w H' T' w' ∧ K undef T' H') ∨
    (∃ f args, (execOp (ev ρ) o).run P w = .ok (.enter f args) w ∧ Calls P f args w fun e w' => ∃ v T' H', e = .returned v ∧ Fr H T w H' T' w' ∧ K v T' H') ∨
    (∃ y fn tmps assign body, (execOp (ev ρ) o).run P w = .ok (.round y fn tmps assign body) w ∧ Rounds P y fn tmps assign body w fun v w' => ∃ T' H', Fr H T w H' T' w' ∧ K v T' H')

/-- A QUIET OPERATION: its value hangs on the slots and on H alone; nothing turns. -/
def OpQ (P : Program) (ρ : Env) (o : Oper) (H : PH) (v : Value) : Prop :=
  isDefer o.op = false ∧ ∀ T w, Own H T w → (execOp (ev ρ) o).run P w = .ok (.value v) w

theorem OpQ.do {o : Oper} {v : Value} {K : Value → PH → PH → Prop} (h : OpQ P ρ o H v) (hk : K v T H) : OpDo P ρ o T H K :=
  ⟨h.1, fun w ho => .inl ⟨v, T, H, w, h.2 T w ho, .refl ho, hk⟩⟩

theorem OpDo.mono {o : Oper} {K K' : Value → PH → PH → Prop} (h : OpDo P ρ o T H K) (hk : ∀ v T' H', K v T' H' → K' v T' H') : OpDo P ρ o T H K' := by
  refine ⟨h.1, fun w ho => ?_⟩
  rcases h.2 w ho with ⟨v, T', H', w', a, b, c⟩ | ⟨T', H', w', a, b, c⟩ | ⟨f, args, a, b⟩ | ⟨y, fn, tmps, as, bd, a, b⟩
  · exact .inl ⟨v, T', H', w', a, b, hk _ _ _ c⟩
  · exact .inr (.inl ⟨T', H', w', a, b, hk _ _ _ c⟩)
  · exact .inr (.inr (.inl ⟨f, args, a, b.mono fun e w' ⟨v, T', H', h1, h2, h3⟩ => ⟨v, T', H', h1, h2, hk _ _ _ h3⟩⟩))
  · refine .inr (.inr (.inr ⟨y, fn, tmps, as, bd, a, fun c cs => ?_⟩))
    obtain ⟨v, w', ⟨T', H', h2, h3⟩, h4⟩ := b c cs
    exact ⟨v, w', ⟨T', H', h2, hk _ _ _ h3⟩, h4⟩

/-- The machine does one operation of a region. -/
theorem step_op {o : Oper} {is : List Nat} {b : Frame} {cs : List Frame} {t : Array Value} {w : World} {K : Value → PH → PH → Prop}
    (hi : ops[i]? = some o) (hw : Region.wanted o (yielded ops t) = true) (ht : TOk n ρ t) (ho : Own H T w) (h : OpDo P ρ o T H K) :
    ∃ v T' H' w', Steps P (lone (mk b t D (.inRegion ops (i :: is) :: k)) cs w) (lone (mk b (tput t o.dst v) D (.inRegion ops is :: k)) cs w') ∧ Fr H T w H' T' w' ∧ K v T' H' := by
  have hg := stepG_mk (P := P) (b := b) (cs := cs) (w := w) (is := is) (k := k) (D := D) hi hw h.1 ht
  have hfin := finish_mk (b := b) (is := is) (k := k) (D := D) (t := t) hi
  rcases h.2 w ho with ⟨v, T', H', w', hr, hfr, hk⟩ | ⟨T', H', w', hr, hfr, hk⟩ | ⟨f, args, hr, hc⟩ | ⟨y, fn, tmps, as, bd, hr, hc⟩
  · refine ⟨v, T', H', w', .one (step_lone_go ?_), hfr, hk⟩
    rw [hg, ← hfin]; simp [stepG.apply, hr]
  · refine ⟨undef, T', H', w', .one (step_lone_go ?_), hfr, hk⟩
    rw [hg, ← hfin]; simp [stepG.apply, hr]
  · obtain ⟨e, w', fr, hR, hcomes, hfn, hleave⟩ := hc (mk b t D (.inRegion ops (i :: is) :: k) :: cs)
    obtain ⟨v, T', H', rfl, hfr, hk⟩ := hR
    refine ⟨v, T', H', w', .head (step_lone_go (w' := w) (fr' := Frame.enter P f args .normal) (cs' := mk b t D (.inRegion ops (i :: is) :: k) :: cs) ?_) (Steps.trans hcomes (.one ?_)), hfr, hk⟩
    · rw [hg]; simp [stepG.apply, hr, mk]
    · rw [← hfin]; exact step_leave_returned hleave
  · obtain ⟨v, w', ⟨T', H', hfr, hk⟩, hs⟩ := hc (mk b t D (.inRegion ops (i :: is) :: k)) cs
    rw [hfin] at hs
    refine ⟨v, T', H', w', .head (step_lone_go (w' := w) (fr' := Frame.round y fn tmps as bd .normal) (cs' := mk b t D (.inRegion ops (i :: is) :: k) :: cs) ?_) hs, hfr, hk⟩
    rw [hg]; simp [stepG.apply, hr, mk]

/-- AN OPERATION IN THE ORDER OF THE TEXT. -/
theorem GoOps.op {o : Oper} (hw : want ops ρ o = true) (hd : ∀ x, o.dst = some x → x < n)
    (h : OpDo P ρ o T H fun v T' H' => GoOps P rd n ops l (i + 1) k (putD ρ o.dst v) D T' H' Q) : GoOps P rd n ops (o :: l) i k ρ D T H Q := by
  intro hl b cs t w hb ht ho
  obtain ⟨hi, hl'⟩ := drop_cons hl
  have hi' : ops[i]? = some o := by simpa using hi
  obtain ⟨v, T', H', w', hs, hfr, hk⟩ := step_op (is := List.range' (i + 1) l.length) (b := b) (cs := cs) (k := k) (D := D) hi' (by rw [wanted_eq ht]; exact hw) ht ho h
  obtain ⟨f, k', t', ρ', D', T2, H2, w2, a1, a2, a3, a4, a5⟩ := hk hl' b cs (tput t o.dst v) w' hb (ht.tput hd v) hfr.own
  refine ⟨f, k', t', ρ', D', T2, H2, w2, ?_, a2, a3, hfr.trans a4, a5⟩
  rw [List.length_cons, List.range'_succ]
  exact hs.trans a1

theorem GoOps.q {o : Oper} {d : Nat} {v : Value} (hw : want ops ρ o = true) (hd : o.dst = some d) (hdn : d < n) (hq : OpQ P ρ o H v)
    (h : GoOps P rd n ops l (i + 1) k (upd ρ d v) D T H Q) : GoOps P rd n ops (o :: l) i k ρ D T H Q :=
  .op hw (fun x hx => by rw [hd] at hx; cases hx; exact hdn) (hq.do (by rw [hd]; exact h))

end
end Go.Kx

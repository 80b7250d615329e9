/- A FUNCTION's CONTRACT OUT OF ITS BODY's WAY; the marks that walks leave among the deferred calls. -/
import Derived.Test.YtegnpplffhkjhaaKxB
set_option linter.unusedVariables false
set_option linter.unusedSimpArgs false
namespace Go.Kx
section
variable {P : Program} {n : Nat} {k : List Item} {ρ : Env} {D : List Deferred} {T H : PH} {Q : Post}

def marks (rs : List Nat) : List Deferred := rs.map fun r => { target := .collected r, args := #[] }
/-- The deferred calls are marks alone, of empty blocks among the tokens; Tg is what stays behind them. -/
def DOk (D : List Deferred) (T Tg : PH) : Prop := ∃ rs : List Nat, D = marks rs ∧ rs.Nodup ∧ (∀ r, r ∈ rs → T r = some (.deferred (some []))) ∧ ∀ b o, Tg b = some o → T b = some o ∧ b ∉ rs
theorem DOk.nil : DOk [] T T := ⟨[], rfl, by simp, by simp, fun b o h => ⟨h, by simp⟩⟩
theorem DOk.weaken {T1 T2 : PH} (h : DOk D T T1) (hs : ∀ b o, T2 b = some o → T1 b = some o) : DOk D T T2 := by
  obtain ⟨rs, a, b, c, d⟩ := h; exact ⟨rs, a, b, c, fun x o hx => d x o (hs x o hx)⟩
theorem DOk.none {Tg : PH} (h : DOk D T Tg) : DOk D T PH.none := h.weaken fun _ _ h => by cases h

def back (b : Frame) (t : Array Value) (D : List Deferred) (k : List Item) : Frame := { mk b t D k with mode := .returning }

theorem unwind_marks {b : Frame} {cs : List Frame} {t : Array Value} {Tg : PH} : ∀ (rs : List Nat) (T : PH) (w : World), Own H T w → rs.Nodup → (∀ r, r ∈ rs → T r = some (.deferred (some []))) →
    (∀ b o, Tg b = some o → T b = some o ∧ b ∉ rs) → ∃ w', Steps P (lone (back b t (marks rs) k) cs w) (lone (back b t [] k) cs w') ∧ Fr H T w H Tg w'
  | [], T, w, ho, _, _, hg => ⟨w, .refl _ _, (Fr.refl ho).weaken (fun _ _ h => h) fun b o h => (hg b o h).1⟩
  | r :: rs, T, w, ho, hnd, hT, hg => by
    have hr := hT r (by simp)
    have hw := ho.tok r _ hr
    have hput : Fr H T w H (T.upd r (.deferred Option.none)) { w with heap := w.heap.setIfInBounds r (.deferred Option.none) } := .putTok ho hr rfl rfl rfl rfl
    rw [List.nodup_cons] at hnd
    obtain ⟨w', h1, h2⟩ := unwind_marks (b := b) (cs := cs) (t := t) (Tg := Tg) rs _ _ hput.own hnd.2
      (fun q hq => by rw [PH.upd_other _ _ (fun e => hnd.1 (by rw [← e]; exact hq))]; exact hT q (by simp [hq]))
      (fun x o hx => by
        obtain ⟨a1, a2⟩ := hg x o hx
        simp at a2
        exact ⟨by rw [PH.upd_other _ _ a2.1]; exact a1, a2.2⟩)
    refine ⟨w', .head (step_lone_go ?_) h1, hput.trans h2⟩
    simp [stepG, unwind, back, mk, marks, Instr.takeDeferred, Sem.runT_eq, Sem.run_bind, getObj, setObj, Sem.run, hw, Result.andThen, GStep.bare_after]

/-- What the function hands back. -/
def ResOk (P : Program) (fn : Func) (ρ : Env) (H : PH) (v : Value) : Prop := ∀ n t T w, TOk n ρ t → Own H T w → (results fn t).run P w = .ok v w
theorem resOk0 {fn : Func} (h : fn.results = #[]) : ResOk P fn ρ H (.tuple #[]) := fun n t T w ht ho => by
  simp [results, h, Sem.run_pure, Sem.run_bind, Result.andThen]
theorem resOk1 {fn : Func} {a : Tmp} {v : Value} (h : fn.results = #[.tmp a]) (hv : ρ a = v) : ResOk P fn ρ H v := fun n t T w ht ho => by
  have := ht.2 a
  rw [hv] at this
  simp [results, h, Sem.run_pure, Sem.run_bind, Result.andThen]
  simpa [Array.getD_eq_getD_getElem?] using this
theorem resOk2 {fn : Func} {a b : Tmp} {u v : Value} (h : fn.results = #[.tmp a, .tmp b]) (hu : ρ a = u) (hv : ρ b = v) : ResOk P fn ρ H (.tuple #[u, v]) := fun n t T w ht ho => by
  have h1 := ht.2 a
  have h2 := ht.2 b
  rw [hu] at h1; rw [hv] at h2
  simp [results, h, Sem.run_pure, Sem.run_bind, Result.andThen]
  simp [Array.getD_eq_getD_getElem?] at h1 h2
  exact ⟨h1, h2⟩
theorem resOk3 {fn : Func} {a b c : Tmp} {u v x : Value} (h : fn.results = #[.tmp a, .tmp b, .tmp c]) (hu : ρ a = u) (hv : ρ b = v) (hx : ρ c = x) : ResOk P fn ρ H (.tuple #[u, v, x]) := fun n t T w ht ho => by
  have h1 := ht.2 a
  have h2 := ht.2 b
  have h3 := ht.2 c
  rw [hu] at h1; rw [hv] at h2; rw [hx] at h3
  simp [results, h, Sem.run_pure, Sem.run_bind, Result.andThen]
  simp [Array.getD_eq_getD_getElem?] at h1 h2 h3
  exact ⟨h1, h2, h3⟩

def env0 (args : Array Value) : Env := fun i => args.getD i undef
theorem tok0 {args : Array Value} {m : Nat} (h : args.size ≤ m) : TOk m (env0 args) (args ++ Array.replicate (m - args.size) undef) := by
  refine ⟨by simp; omega, fun i => ?_⟩
  simp only [env0, Array.getD_eq_getD_getElem?]
  by_cases hi : i < args.size
  · rw [Array.getElem?_append_left hi]
  · rw [Array.getElem?_append_right (by omega), Array.getElem?_eq_none (by omega : args.size ≤ i)]
    rw [Array.getElem?_replicate]
    split <;> rfl

/-- THE CONTRACT OUT OF THE BODY's WAY. -/
theorem callsT_of_go {f : FuncId} {fn : Func} {c : Code} {args : Array Value} {R : Value → PH → PH → Prop} (hf : P.funcs[f]? = some fn) (hb : fn.body = some c) (hn : fn.ntmps = n) (hs : args.size ≤ n)
    (h : Go P Option.none n [.code c] (env0 args) [] T H fun fi ρ D T' H' => (fi = .ret ∨ fi = .fall) ∧ ∃ v Tg, DOk D T' Tg ∧ ResOk P fn ρ H' v ∧ R v Tg H') : CallsT P f args T H R := by
  intro w ho cs
  let b : Frame := { fn := f, tmps := #[], todo := [], defers := [], mode := .run, kind := .normal, roundOf := Option.none }
  have henter : Frame.enter P f args .normal = mk b (args ++ Array.replicate (n - args.size) undef) [] [.code c] := by
    simp [Frame.enter, mk, hf, hb, hn, b]
  obtain ⟨fi, k', t', ρ', D', T', H', w', hst, hfin, ht, hfr, hfi, v, Tg, ⟨rs, rfl, hnd, hT, hg⟩, hres, hR⟩ := h b cs _ w rfl (tok0 hs) ho
  obtain ⟨w2, hu, hfr2⟩ := unwind_marks (P := P) (b := b) (cs := cs) (t := t') (k := k') rs T' w' hfr.own hnd hT hg
  have hret : Steps P (lone (mk b t' (marks rs) k') cs w') (lone (back b t' (marks rs) k') cs w') := by
    rcases hfi with rfl | rfl
    · obtain ⟨r, rfl⟩ := hfin
      exact .one (step_lone_go (by simp [stepG, stepG.exec, mk, back, b]))
    · cases hfin
      exact .one (step_lone_go (by simp [stepG, stepG.exec, mk, back, b]))
  refine ⟨.returned v, w2, back b t' [] k', ⟨v, Tg, H', rfl, hfr.trans hfr2, hR⟩, ?_, rfl, rfl, rfl, rfl, fn, hf, hres n t' Tg w2 ht hfr2.own⟩
  rw [henter]
  exact (hst.trans hret).trans hu

theorem callsH_of_go {f : FuncId} {fn : Func} {c : Code} {args : Array Value} {R : Value → PH → Prop} (hf : P.funcs[f]? = some fn) (hb : fn.body = some c) (hn : fn.ntmps = n) (hs : args.size ≤ n)
    (h : Go P Option.none n [.code c] (env0 args) [] PH.none H fun fi ρ D T' H' => (fi = .ret ∨ fi = .fall) ∧ ∃ v Tg, DOk D T' Tg ∧ ResOk P fn ρ H' v ∧ R v H') : CallsH P f args H R := by
  have := callsT_of_go (R := fun v Tg H' => Tg = PH.none ∧ R v H') hf hb hn hs (h.mono fun fi ρ D T' H' ⟨a, v, Tg, b, c, d⟩ => ⟨a, v, PH.none, b.none, c, rfl, d⟩)
  exact fun w ho => (this w ho).mono fun e w' ⟨v, T', H', h1, h2, h3, h4⟩ => ⟨v, H', h1, h3 ▸ h2, h4⟩
end
end Go.Kx

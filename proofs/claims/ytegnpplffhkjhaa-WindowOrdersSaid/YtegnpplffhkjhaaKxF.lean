/- RANGE OVER A FUNCTION, and calls of closures. -/
import Derived.Test.YtegnpplffhkjhaaKxBig
import Derived.RangeFuncRecord
set_option linter.unusedVariables false
set_option linter.unusedSimpArgs false
namespace Go.Kx

def PH.join (M T : PH) : PH := fun b => match M b with | .some o => .some o | .none => T b
theorem join_some {M T : PH} {b : Nat} {o : Obj} (h : M b = some o) : M.join T b = some o := by simp [PH.join, h]
theorem join_none {M T : PH} {b : Nat} (h : M b = none) : M.join T b = T b := by simp [PH.join, h]
theorem join_upd (M T : PH) (b : Nat) (o : Obj) : (M.join T).upd b o = (M.upd b o).join T := by
  funext c
  by_cases e : c = b
  · subst e; simp [PH.join]
  · rw [PH.upd_other _ _ e]; simp [PH.join, PH.upd_other _ _ e]
theorem join_nn : PH.none.join PH.none = PH.none := rfl
theorem join_n (T : PH) : PH.none.join T = T := rfl
def Sub (A B : PH) : Prop := ∀ b o, A b = some o → B b = some o
def Apt {G : Type} (M : PH) (TT : G → PH) : Prop := ∀ b g, M b ≠ none → TT g b = none
def Dom {G : Type} (TT : G → PH) : Prop := ∀ g g' b, TT g b = none → TT g' b = none

/-- What a call keeps holds for tokens that stand beside. -/
theorem Fr.joined {H H' M T T' : PH} {w w' : World} (h : Fr H T w H' T' w') (ho : Own H (M.join T) w) (ha : ∀ b, M b ≠ none → T b = none) (ha' : ∀ b, M b ≠ none → T' b = none) : Fr H (M.join T) w H' (M.join T') w' := by
  have hM : ∀ b o, M b = some o → H b = none := fun b o hb => (ho.dis b).resolve_right (by rw [join_some hb]; simp)
  have hT : ∀ b o, M b = some o → T b = none := fun b o hb => ha b (by rw [hb]; simp)
  refine ⟨⟨h.own.sub, fun b o hb => ?_, fun b => ?_⟩, h.size, fun b hb h1 h2 => ?_, h.os, h.output, h.tape⟩
  · cases hm : M b with
    | none => rw [join_none hm] at hb; exact h.own.tok b o hb
    | some x =>
      rw [join_some hm] at hb; cases hb
      rw [(h.keep b (ho.lt' (join_some hm)) (hM b _ hm) (hT b _ hm)).1]; exact ho.tok b _ (join_some hm)
  · cases hm : M b with
    | none => rw [join_none hm]; exact h.own.dis b
    | some x => exact .inl (h.keep b (ho.lt' (join_some hm)) (hM b _ hm) (hT b _ hm)).2.1
  · cases hm : M b with
    | none =>
      rw [join_none hm] at h2 ⊢
      exact h.keep b hb h1 h2
    | some x => rw [join_some hm] at h2; cases h2
theorem Own.less {H T T' : PH} {w : World} (h : Own H T w) (s : Sub T' T) : Own H T' w := ⟨h.sub, fun b o hb => h.tok b o (s b o hb), fun b => (h.dis b).imp id fun hn => by
  cases hb : T' b with
  | none => rfl
  | some o => rw [s b o hb] at hn; cases hn⟩

/-! ### What yield does, what an iterator does -/
def YieldOk (P : Program) (l : Nat) {γ : Type} (Tk : Nat → γ → PH) (Y : List Value → γ → PH → (Nat → γ → PH → Prop) → Prop) : Prop :=
  ∀ vs g H K, Y vs g H K → ∀ w, Own H (Tk 0 g) w → ∃ fn tmps assign body, (Instr.yield l vs.toArray).run P w = .ok (.round l fn tmps assign body) w ∧
    Rounds P l fn tmps assign body w fun v w' => ∃ j g' H', v = .bool (j == 0) ∧ Fr H (Tk 0 g) w H' (Tk j g') w' ∧ K j g' H'
/-- The function value v is an iterator: called, it asks Y for one thing behind the other, and ends with R. -/
def IterH (P : Program) (v : Value) {γ : Type} (Y : List Value → γ → PH → (Nat → γ → PH → Prop) → Prop) (g : γ) (H : PH) (R : Nat → γ → PH → Prop) : Prop :=
  ∃ f fi ca, v = .func (.func f) fi ca ∧ Body P f ∧ ∀ l (Tk : Nat → γ → PH), Dom (fun q : Nat × γ => Tk q.1 q.2) → YieldOk P l Tk Y →
    CallsT P f (fi ++ #[.func (.yield l) #[] #[]] ++ ca) (Tk 0 g) H fun _ T' H' => ∃ j g', T' = Tk j g' ∧ R j g' H'
/-- A call of a closure. -/
def CallV (P : Program) (v : Value) (vs : List Value) (H : PH) (K : Value → PH → Prop) : Prop :=
  ∃ f fi ca, v = .func (.func f) fi ca ∧ Body P f ∧ CallsH P f (fi ++ vs.toArray ++ ca) H K
theorem CallV.mono {P : Program} {v : Value} {vs : List Value} {H : PH} {K K' : Value → PH → Prop} (h : CallV P v vs H K) (hk : ∀ r H', K r H' → K' r H') : CallV P v vs H K' := by
  obtain ⟨f, fi, ca, h1, h2, h3⟩ := h
  exact ⟨f, fi, ca, h1, h2, h3.mono hk⟩

/-! ### A frame with tokens: its own (M), and those of the walk that it serves (TT) -/
def Mk (rd : Option Nat) (D : List Deferred) (M : PH) : Prop := match rd with
  | none => ∃ rs : List Nat, D = marks rs ∧ rs.Nodup ∧ ∀ r, r ∈ rs → M r = some (.deferred (some []))
  | some _ => True
def FinM {G : Type} (rd : Option Nat) (B' : PH) (TT : G → PH) (Q : Fin → Env → G → PH → Prop) : Post := fun f ρ D T H => ∃ M g, Mk rd D M ∧ Sub B' M ∧ Apt M TT ∧ T = M.join (TT g) ∧ Q f ρ g H
def GoM {G : Type} (P : Program) (rd : Option Nat) (n : Nat) (k : List Item) (ρ : Env) (B B' : PH) (TT : G → PH) (g : G) (H : PH) (Q : Fin → Env → G → PH → Prop) : Prop :=
  ∀ D M, Mk rd D M → Sub B M → Apt M TT → Go P rd n k ρ D (M.join (TT g)) H (FinM rd B' TT Q)

section rules
variable {P : Program} {rd : Option Nat} {n : Nat} {k : List Item} {ρ : Env} {D : List Deferred} {M B B' H T : PH} {ops : Array Oper} {l : List Oper} {i : Nat}
variable {G : Type} {TT : G → PH} {g : G} {Q : Fin → Env → G → PH → Prop} {QP : Post}

theorem Go.retM (hM : Mk rd D M) (hB : Sub B' M) (hA : Apt M TT) (h : Q .ret ρ g H) : Go P rd n (.code .ret :: k) ρ D (M.join (TT g)) H (FinM rd B' TT Q) := .ret ⟨M, g, hM, hB, hA, rfl, h⟩
theorem Go.fallM (hM : Mk rd D M) (hB : Sub B' M) (hA : Apt M TT) (h : Q .fall ρ g H) : Go P rd n [] ρ D (M.join (TT g)) H (FinM rd B' TT Q) := .fall ⟨M, g, hM, hB, hA, rfl, h⟩
theorem Go.exitM {id : Nat} (he : exitTo id k = none) (hM : Mk rd D M) (hB : Sub B' M) (hA : Apt M TT) (h : Q (.exit id) ρ g H) : Go P rd n (.code (.exit id) :: k) ρ D (M.join (TT g)) H (FinM rd B' TT Q) := .exitOut he ⟨M, g, hM, hB, hA, rfl, h⟩

theorem join_goM {σ : Type} (m : Nat) (gh : σ → G) (E : Env → σ → Prop) {kk : σ → PH → Prop} {body : (σ → PH → Prop) → Prop} (hB : Sub B M) (h : mJoin kk body)
    (h1 : ∀ s H ρ, kk s H → E ρ s → GoM P rd n (k.drop m) ρ B B' TT (gh s) H Q)
    (h2 : ∀ j : σ → PH → Prop, (∀ s H ρ, j s H → E ρ s → GoM P rd n (k.drop m) ρ B B' TT (gh s) H Q) → body j → Go P rd n k ρ D T H (FinM rd B' TT Q)) : Go P rd n k ρ D T H (FinM rd B' TT Q) := h2 kk h1 h
theorem join_opsM {σ : Type} (m : Nat) (gh : σ → G) (E : Env → σ → Prop) {kk : σ → PH → Prop} {body : (σ → PH → Prop) → Prop} (h : mJoin kk body)
    (h1 : ∀ s H ρ, kk s H → E ρ s → GoOps P rd n ops (l.drop m) (i + m) k ρ D (M.join (TT (gh s))) H QP)
    (h2 : ∀ j : σ → PH → Prop, (∀ s H ρ, j s H → E ρ s → GoOps P rd n ops (l.drop m) (i + m) k ρ D (M.join (TT (gh s))) H QP) → body j → GoOps P rd n ops l i k ρ D T H QP) : GoOps P rd n ops l i k ρ D T H QP := h2 kk h1 h
theorem loop_goM {σ : Type} {c : Code} {bodyM : σ → PH → (σ → PH → Prop) → Prop} {s0 : σ} (gh : σ → G) (E : Env → σ → Prop) (hM : Mk rd D M) (hB : Sub B M) (hA : Apt M TT) (h : mLoop bodyM s0 H) (hE : E ρ s0) (hg : g = gh s0)
    (round : ∀ ρ s H again, E ρ s → bodyM s H again → (∀ s' H' ρ', again s' H' → E ρ' s' → GoM P rd n (.inLoop c :: k) ρ' B B' TT (gh s') H' Q) → GoM P rd n (.code c :: .inLoop c :: k) ρ B B' TT (gh s) H Q) :
    Go P rd n (.code (.loop c) :: k) ρ D (M.join (TT g)) H (FinM rd B' TT Q) := by
  subst hg
  obtain ⟨I, ⟨m0, h0⟩, hr⟩ := h
  refine Go.step (k2 := .code c :: .inLoop c :: k) (fun b cs t w _ => step_lone_go (by simp [stepG, stepG.exec, mk])) ?_
  have key : ∀ m s H ρ, E ρ s → I m s H → GoM P rd n (.code c :: .inLoop c :: k) ρ B B' TT (gh s) H Q := by
    intro m
    induction m using Nat.strongRecOn with
    | _ m ih =>
      intro s H ρ hE hI
      refine round ρ s H _ hE (hr m s H hI) fun s' H' ρ' ⟨m', hlt, hI'⟩ hE' D M hM hB hA => ?_
      exact .step (fun b cs t w _ => step_lone_go (by simp [stepG, stepG.exec, mk])) (ih m' hlt s' H' ρ' hE' hI' D M hM hB hA)
  exact key m0 s0 H ρ hE h0 D M hM hB hA

/-! ### The statement -/
def setAll (ρ : Env) : List Nat → List Value → Env
  | p :: ps, v :: vs => setAll (upd ρ p v) ps vs
  | _, _ => ρ
theorem tok_setAll {n : Nat} : ∀ (ps : List Nat) (vs : List Value) (ρ : Env) (t : Array Value), TOk n ρ t → (∀ p, p ∈ ps → p < n) → TOk n (setAll ρ ps vs) ((ps.zip vs).foldl (fun t q => t.setIfInBounds q.1 q.2) t)
  | [], _, _, _, h, _ => h
  | _ :: _, [], _, _, h, _ => h
  | p :: ps, v :: vs, ρ, t, h, hp => tok_setAll ps vs _ _ (h.put (hp p (by simp)) v) fun q hq => hp q (by simp [hq])

/-- How a round ended: 0: as it should; else: by one of these jumps. -/
def JumpIs (js : List Code) (j : Nat) : Fin → Prop
  | .fall => j = 0
  | .ret => ∃ i, j = i + 1 ∧ js[i]? = some .ret
  | .exit id => ∃ i, j = i + 1 ∧ js[i]? = some (.exit id)
def jump (js : List Code) : Nat → Option Code
  | 0 => none
  | i + 1 => js[i]?
def loopAt (r : Loop) (js : List Code) (j : Nat) : Loop := { r with state := if j = 0 then .ready else .done, pending := jump js j }
def busyAt (r : Loop) : Loop := { r with state := .busy }

theorem go_begin {lp : Nat} {Bx : PH} {r : Loop} (hr : r.state = .ready) (hB : Sub (Bx.upd lp (.loop r)) M) (hA : Apt M TT)
    (h : ∀ M', Sub (Bx.upd lp (.loop (busyAt r))) M' → Apt M' TT → Go P (some lp) n k ρ D (M'.join (TT g)) H QP) : Go P (some lp) n (.beginRound :: k) ρ D (M.join (TT g)) H QP := by
  intro b cs t w hb ht ho
  have hl : M lp = some (.loop r) := hB _ _ (by simp)
  have hw := ho.tok lp _ (join_some hl)
  have hlt := ho.lt' (join_some hl)
  have hput : Fr H (M.join (TT g)) w H ((M.join (TT g)).upd lp (.loop (busyAt r))) (w.putObj lp (.loop (busyAt r))) := .putTok ho (join_some hl) rfl rfl rfl rfl
  rw [join_upd] at hput
  obtain ⟨f, k', t', ρ', D', T', H', w', a1, a2, a3, a4, a5⟩ := h (M.upd lp (.loop (busyAt r))) (fun c o hc => by
      by_cases e : c = lp
      · subst e; simpa using hc
      · rw [PH.upd_other _ _ e] at hc ⊢; exact hB c o (by rw [PH.upd_other _ _ e]; exact hc))
    (fun c g' hc => by
      by_cases e : c = lp
      · subst e; exact hA _ _ (by rw [hl]; simp)
      · rw [PH.upd_other _ _ e] at hc; exact hA c g' hc) b cs t _ hb ht hput.own
  refine ⟨f, k', t', ρ', D', T', H', w', .head (step_lone_go ?_) a1, a2, a3, hput.trans a4, a5⟩
  have hrun := run_beginRound (P := P) hw hr
  have hbr : b.roundOf = some lp := hb
  simp only [stepG, stepG.exec, mk, stepG.apply, hbr, Option.elim, Sem.runT_eq, if_true]
  simp [Sem.run_bind, hrun, Result.andThen, Sem.run_pure, GStep.bare_after, Frame.finish]
  rfl

def EnterOk (rd : Option Nat) (M : PH) : Prop := match rd with
  | none => True
  | some l => ∃ r, M l = some (.loop r)

/-- A round, from its beginning to its end. -/
theorem rounds_of_go {lp : Nat} {js : List Code} {r : Loop} {M1 : PH} {fn : FuncId} {tmps : Array Value} {assign body : Code} {w : World} {K : Nat → G → PH → Prop} (hr : r = loopAt r js 0) (ht : TOk n ρ tmps)
    (hA : Apt (M1.upd lp (.loop (loopAt r js 0))) TT)
    (h : GoM P (some lp) n [.code assign, .beginRound, .code body] ρ (M1.upd lp (.loop r)) (M1.upd lp (.loop (busyAt r))) TT g H fun f ρ' g' H' => ∃ j, JumpIs js j f ∧ K j g' H')
    (ho : Own H ((M1.upd lp (.loop (loopAt r js 0))).join (TT g)) w) :
    Rounds P lp fn tmps assign body w fun v w' => ∃ j g' H', v = .bool (j == 0) ∧ Fr H ((M1.upd lp (.loop (loopAt r js 0))).join (TT g)) w H' ((M1.upd lp (.loop (loopAt r js j))).join (TT g')) w' ∧ K j g' H' := by
  intro c cs
  rw [← hr] at ho hA ⊢
  let b : Frame := { fn := fn, tmps := #[], todo := [], defers := [], mode := .run, kind := .normal, roundOf := some lp }
  obtain ⟨f, k', t', ρ', D', T', H', w', a1, a2, a3, a4, M', g', b1, b2, b3, rfl, j, b4, b5⟩ := h [] _ trivial (fun _ _ h => h) hA b (c :: cs) tmps w rfl ht ho
  have hl : M' lp = some (.loop (busyAt r)) := b2 _ _ (by simp)
  have hw := a4.own.tok lp _ (join_some hl)
  have fin : ∀ jp : Option Code, jump js j = jp → (jp.isNone = (j == 0)) →
      step P (lone (mk b t' D' k') (c :: cs) w') = .next (lone (c.finish (.bool jp.isNone)) cs (w'.putObj lp (.loop { busyAt r with state := if jp.isNone then .ready else .done, pending := jp }))) → 
      ∃ v w'', (∃ j g' H', v = .bool (j == 0) ∧ Fr H ((M1.upd lp (.loop r)).join (TT g)) w H' ((M1.upd lp (.loop (loopAt r js j))).join (TT g')) w'' ∧ K j g' H') ∧ Steps P (lone (Frame.round lp fn tmps assign body .normal) (c :: cs) w) (lone (c.finish v) cs w'') := by
    intro jp hj hn hs
    refine ⟨_, _, ⟨j, g', H', by rw [hn], ?_, b5⟩, a1.trans (.one hs)⟩
    have hput : Fr H' (M'.join (TT g')) w' H' ((M'.join (TT g')).upd lp (.loop (loopAt r js j))) (w'.putObj lp (.loop { busyAt r with state := if jp.isNone then .ready else .done, pending := jp })) := by
      refine .putTok a4.own (join_some hl) ?_ rfl rfl rfl
      have : loopAt r js j = { busyAt r with state := if jp.isNone then .ready else .done, pending := jp } := by
        simp only [loopAt, busyAt, hj, hn]
        by_cases e : j = 0 <;> simp [e]
      rw [this]; rfl
    rw [join_upd] at hput
    refine (a4.trans hput).weaken (fun _ _ h => h) fun x o hx => ?_
    by_cases e : x = lp
    · subst e
      rw [join_some (PH.upd_same _ _ _)] at hx
      rw [join_some (PH.upd_same _ _ _)]; exact hx
    · cases hm : M1 x with
      | some y =>
        rw [join_some (by rw [PH.upd_other _ _ e]; exact hm)] at hx
        rw [join_some (by rw [PH.upd_other _ _ e]; exact b2 x y (by rw [PH.upd_other _ _ e]; exact hm))]; exact hx
      | none =>
        rw [join_none (by rw [PH.upd_other _ _ e]; exact hm)] at hx
        rw [join_none]
        · exact hx
        · rw [PH.upd_other _ _ e]
          cases hm' : M' x with
          | none => rfl
          | some y => have := b3 x g' (by rw [hm']; simp); rw [this] at hx; cases hx
  cases f with
  | fall =>
    cases a2
    have ej : j = 0 := b4
    subst ej
    refine fin none rfl rfl (step_lone_go ?_)
    have hrun := run_endRound (P := P) none hw
    simp only [stepG, stepG.exec, mk, b, Sem.runT_eq, GStep.bare_after, hrun]
    simp [doReturn]
  | ret =>
    obtain ⟨rr, rfl⟩ := a2
    obtain ⟨i, rfl, hj⟩ := b4
    refine fin (some .ret) hj rfl (step_lone_go ?_)
    have hrun := run_endRound (P := P) (some .ret) hw
    simp only [stepG, stepG.exec, mk, b, Sem.runT_eq, GStep.bare_after, hrun]
    simp [doReturn]
  | exit id =>
    obtain ⟨rr, rfl, he⟩ := a2
    obtain ⟨i, rfl, hj⟩ := b4
    refine fin (some (.exit id)) hj rfl (step_lone_go ?_)
    have hrun := run_endRound (P := P) (some (.exit id)) hw
    simp only [stepG, stepG.exec, mk, b, he, Option.elim, Sem.runT_eq, GStep.bare_after, hrun]
    simp [doReturn]

theorem foldl_zip (ps : Array Nat) (vs : List Value) (t : Array Value) : (ps.zip vs.toArray).foldl (fun t (q : Nat × Value) => t.setIfInBounds q.1 q.2) t = (ps.toList.zip vs).foldl (fun t q => t.setIfInBounds q.1 q.2) t := by
  rw [← Array.foldl_toList]; simp
theorem zip_nil_right {α β : Type} (l : List α) : l.zip ([] : List β) = [] := by cases l <;> rfl

/-- THE STATEMENT 'for .. := range f {..}'. js: the jumps out of its body. -/
theorem go_range {f : Operand} {params : Array Tmp} {assign body : Code} {v : Value} {Y : List Value → G → PH → (Nat → G → PH → Prop) → Prop} {R : Nat → G → PH → Prop} (js : List Code)
    (hf : ev ρ f = v) (it : IterH P v Y g H R) (hdom : Dom TT) (hp : params.toList.all (fun p => decide (p < n)) = true) (hM : Mk rd D M) (hB : Sub B M) (hA : Apt M TT) (hE : EnterOk rd M)
    (hround : ∀ vs g H K, Y vs g H K → vs.length = params.size ∧ ∀ (lp : Nat) (Bx : PH) (r : Loop), r.state = .ready →
      GoM P (some lp) n [.code assign, .beginRound, .code body] (setAll ρ params.toList vs) (Bx.upd lp (.loop r)) (Bx.upd lp (.loop (busyAt r))) TT g H fun f ρ' g' H' => ∃ j, JumpIs js j f ∧ K j g' H')
    (hafter : ∀ j g' H', R j g' H' → GoM P rd n (((jump js j).map Item.code).toList ++ k) ρ B B' TT g' H' Q) :
    Go P rd n (.code (.rangeFunc f params assign body) :: k) ρ D (M.join (TT g)) H (FinM rd B' TT Q) := by
  intro b cs t w hb ht ho
  obtain ⟨gf, fi, ca, rfl, hbody, hit⟩ := it
  -- the records
  obtain ⟨lp, mark, w1, M1, r, hrun, hrdy, hpd, hrt, hrp, hra, hrb, hfr1, hl1, hMk, hMsub, hMapt⟩ : ∃ (lp : Nat) (mark : List Deferred) (w1 : World) (M1 : PH) (r : Loop),
      (Instr.enterLoop b.fn t params assign body b.roundOf).run P w = .ok (lp, mark) w1 ∧ r.state = .ready ∧ r.pending = none ∧ r.tmps = t ∧ r.params = params ∧ r.assign = assign ∧ r.body = body ∧
      Fr H (M.join (TT g)) w H ((M1.upd lp (.loop r)).join (TT g)) w1 ∧ (∀ g', TT g' lp = none) ∧ (∀ o, Mk rd (mark ++ D) (M1.upd lp o)) ∧ (∀ o, Sub B (M1.upd lp o)) ∧ Apt M1 TT := by
    have hn0 : ∀ {T : PH} {w : World}, Own H ((T).join (TT g)) w → T w.heap.size = none ∧ ∀ g', TT g' w.heap.size = none := fun {T} {w} h => by
      have := h.new.2
      cases hT : T w.heap.size with
      | none => rw [join_none hT] at this; exact ⟨rfl, fun g' => hdom g g' _ this⟩
      | some o => rw [join_some hT] at this; cases this
    cases rd with
    | none =>
      have hbr : b.roundOf = none := hb
      obtain ⟨m0, t0⟩ := hn0 ho
      have f1 : Fr H (M.join (TT g)) w H ((M.join (TT g)).upd w.heap.size (.deferred (some []))) (w.alloc (.deferred (some []))) := .allocTok ho _
      rw [join_upd] at f1
      obtain ⟨m1, t1⟩ := hn0 f1.own
      have hsz : (w.alloc (.deferred (some []))).heap.size = w.heap.size + 1 := by simp
      rw [hsz] at m1 t1
      let r : Loop := { state := .ready, pending := none, fn := b.fn, tmps := t, params := params, assign := assign, body := body, defers := w.heap.size }
      have f2 : Fr H ((M.upd w.heap.size (.deferred (some []))).join (TT g)) (w.alloc (.deferred (some []))) H (((M.upd w.heap.size (.deferred (some []))).join (TT g)).upd (w.alloc (.deferred (some []))).heap.size (.loop r)) ((w.alloc (.deferred (some []))).alloc (.loop r)) := .allocTok f1.own _
      rw [join_upd, hsz] at f2
      obtain ⟨rs, e1, e2, e3⟩ := hM
      refine ⟨w.heap.size + 1, _, _, M.upd w.heap.size (.deferred (some [])), r, by rw [hbr]; exact run_enterLoop_outer _ _ _ _ _, rfl, rfl, rfl, rfl, rfl, rfl, f1.trans f2, t1, fun o => ⟨w.heap.size :: rs, ?_, ?_, ?_⟩, fun o => ?_, ?_⟩
      · rw [e1]; rfl
      · rw [List.nodup_cons]; exact ⟨fun hm => (by rw [e3 _ hm] at m0; cases m0), e2⟩
      · intro x hx
        rcases List.mem_cons.1 hx with rfl | hx
        · rw [PH.upd_other _ _ (by omega), PH.upd_same]
        · have hx1 : x ≠ w.heap.size := fun e => by subst e; rw [e3 _ hx] at m0; cases m0
          have hx2 : x ≠ w.heap.size + 1 := fun e => by
            subst e
            rw [PH.upd_other _ _ hx1, e3 _ hx] at m1; cases m1
          rw [PH.upd_other _ _ hx2, PH.upd_other _ _ hx1]; exact e3 _ hx
      · intro x ox hx
        have hx0 := hB x ox hx
        have hx1 : x ≠ w.heap.size := fun e => by subst e; rw [hx0] at m0; cases m0
        have hx2 : x ≠ w.heap.size + 1 := fun e => by
          subst e
          rw [PH.upd_other _ _ hx1, hx0] at m1; cases m1
        rw [PH.upd_other _ _ hx2, PH.upd_other _ _ hx1]; exact hx0
      · intro x g' hx
        by_cases e : x = w.heap.size
        · subst e; exact t0 g'
        · rw [PH.upd_other _ _ e] at hx; exact hA x g' hx
    | some l0 =>
      have hbr : b.roundOf = some l0 := hb
      obtain ⟨m0, t0⟩ := hn0 ho
      obtain ⟨r0, hr0⟩ := hE
      let r : Loop := { state := .ready, pending := none, fn := b.fn, tmps := t, params := params, assign := assign, body := body, defers := r0.defers }
      have f2 : Fr H (M.join (TT g)) w H ((M.join (TT g)).upd w.heap.size (.loop r)) (w.alloc (.loop r)) := .allocTok ho _
      rw [join_upd] at f2
      refine ⟨w.heap.size, [], _, M, r, ?_, rfl, rfl, rfl, rfl, rfl, rfl, f2, t0, fun _ => trivial, fun _ => ?_, hA⟩
      · rw [hbr]
        unfold Instr.enterLoop
        simp only [Sem.run_bind, run_getLoop (ho.tok l0 _ (join_some hr0)), run_newObj_alloc, Result.andThen, Sem.run_pure, r]
      · intro x ox hx
        have hx0 := hB x ox hx
        have hx1 : x ≠ w.heap.size := fun e => by subst e; rw [hx0] at m0; cases m0
        rw [PH.upd_other _ _ hx1]; exact hx0
  have er : r = loopAt r js 0 := by
    simp only [loopAt, jump]
    cases r; simp_all
  -- the tokens of this walk
  have hA1 : ∀ j, Apt (M1.upd lp (.loop (loopAt r js j))) TT := fun j x g' hx => by
    by_cases e : x = lp
    · subst e; exact hl1 g'
    · rw [PH.upd_other _ _ e] at hx; exact hMapt x g' hx
  have hdomk : Dom (fun q : Nat × G => (M1.upd lp (.loop (loopAt r js q.1))).join (TT q.2)) := fun q q' x hx => by
    replace hx : ((M1.upd lp (.loop (loopAt r js q.1))).join (TT q.2)) x = none := hx
    show ((M1.upd lp (.loop (loopAt r js q'.1))).join (TT q'.2)) x = none
    by_cases e : x = lp
    · subst e; rw [join_some (PH.upd_same _ _ _)] at hx; cases hx
    · cases hm : M1 x with
      | none =>
        rw [join_none (by rw [PH.upd_other _ _ e]; exact hm)] at hx ⊢
        exact hdom _ _ _ hx
      | some o => rw [join_some (by rw [PH.upd_other _ _ e]; exact hm)] at hx; cases hx
  have hy : YieldOk P lp (fun j g => (M1.upd lp (.loop (loopAt r js j))).join (TT g)) Y := by
    intro vs g2 H2 K hY w2 ho2
    obtain ⟨hlen, hgo⟩ := hround vs g2 H2 K hY
    have hw2 := ho2.tok lp _ (join_some (PH.upd_same _ _ _))
    refine ⟨_, _, _, _, run_yield hw2 (by show vs.toArray.size = r.params.size; rw [hrp]; simpa using hlen), ?_⟩
    have htk : TOk n (setAll ρ params.toList vs) (((loopAt r js 0).params.zip vs.toArray).foldl (fun tmps (q : Nat × Value) => tmps.setIfInBounds q.1 q.2) (loopAt r js 0).tmps) := by
      show TOk n _ ((r.params.zip vs.toArray).foldl (fun tmps (q : Nat × Value) => tmps.setIfInBounds q.1 q.2) r.tmps)
      rw [hrp, hrt, foldl_zip]
      refine tok_setAll _ _ _ _ ht fun p hp' => ?_
      simp only [List.all_eq_true] at hp
      simpa using hp p hp'
    have := rounds_of_go (fn := r.fn) (assign := assign) (body := body) (K := K) er htk (hA1 0) (hgo lp M1 r hrdy) ho2
    rw [← hra, ← hrb] at this
    exact this
  have hcall := hit lp _ hdomk hy w1 (by rw [← er]; exact hfr1.own)
  let fr2 : Frame := mk b t (mark ++ D) (.inRangeFunc lp :: k)
  obtain ⟨e, w2, fr3, ⟨v, T2, H2, rfl, hfr2, j, g2, rfl, hR⟩, hcomes, hfn, hleave⟩ := hcall (fr2 :: cs)
  rw [← er] at hfr2
  have hl2 : (((M1.upd lp (.loop (loopAt r js j))).join (TT g2)) : PH) lp = some (.loop (loopAt r js j)) := join_some (PH.upd_same _ _ _)
  have hw2 := hfr2.own.tok lp _ hl2
  have hend := run_endLoop (P := P) hw2 (by show (if j = 0 then LoopState.ready else .done) ≠ .busy; split <;> simp)
  have hput : Fr H2 ((M1.upd lp (.loop (loopAt r js j))).join (TT g2)) w2 H2 (((M1.upd lp (.loop (loopAt r js j))).join (TT g2)).upd lp (.loop { loopAt r js j with state := .exhausted })) (w2.putObj lp (.loop { loopAt r js j with state := .exhausted })) := .putTok hfr2.own hl2 rfl rfl rfl rfl
  have heq : ((M1.upd lp (.loop (loopAt r js j))).join (TT g2)).upd lp (.loop { loopAt r js j with state := .exhausted }) = (M1.upd lp (.loop { loopAt r js j with state := .exhausted })).join (TT g2) := by
    rw [join_upd]
    congr 1
    funext x
    by_cases e : x = lp
    · subst e; simp
    · simp [PH.upd_other _ _ e]
  rw [heq] at hput
  have hA3 : Apt (M1.upd lp (.loop { loopAt r js j with state := .exhausted })) TT := fun x g' hx => by
    by_cases e : x = lp
    · subst e; exact hl1 g'
    · rw [PH.upd_other _ _ e] at hx; exact hMapt x g' hx
  obtain ⟨fe, k', t', ρ', D', T', H', w', a1, a2, a3, a4, a5⟩ := hafter j g2 H2 hR (mark ++ D) _ (hMk _) (hMsub _) hA3 b cs t _ hb ht hput.own
  refine ⟨fe, k', t', ρ', D', T', H', w', ?_, a2, a3, ((hfr1.trans hfr2).trans hput).trans a4, a5⟩
  have hev := eval_mk ht b (mark ++ D) (.inRangeFunc lp :: k)
  have s1 : step P (lone (mk b t D (.code (.rangeFunc f params assign body) :: k)) cs w) = .next (lone (Frame.enter P gf (fi ++ #[.func (.yield lp) #[] #[]] ++ ca) .normal) (fr2 :: cs) w1) := by
    refine step_lone_go ?_
    simp only [mk] at hev
    simp only [stepG, stepG.exec, mk, Sem.runT_eq, GStep.bare_after, hrun, stepG.apply]
    simp [resolve, hev, hf, (show ∀ x, ev ρ (.const x) = x from fun _ => rfl), Deferred.ofValue, Sem.run_bind, Sem.run_pure, Result.andThen, invoke, hbody _ _, fr2, mk]
  have s2 : step P (lone fr3 (fr2 :: cs) w2) = .next (lone (fr2.finish v) cs w2) := step_leave_returned hleave
  have e2 : fr2.finish v = mk b t (mark ++ D) (.endRangeFunc lp :: k) := by simp [Frame.finish, fr2, mk]
  have s3 : step P (lone (mk b t (mark ++ D) (.endRangeFunc lp :: k)) cs w2) = .next (lone (mk b t (mark ++ D) (((jump js j).map Item.code).toList ++ k)) cs (w2.putObj lp (.loop { loopAt r js j with state := .exhausted }))) := by
    refine step_lone_go ?_
    simp only [stepG, stepG.exec, mk, Sem.runT_eq, GStep.bare_after, hend]
    rfl
  rw [e2] at s2
  exact .head s1 (hcomes.trans (.head s2 (.head s3 a1)))

theorem join_planM {σ : Type} {S : Nat} {L : List Nat} (S2 : Nat) (L2 : List Nat) (gh : σ → G) (E : Env → σ → Prop) {kk : σ → PH → Prop} {body : (σ → PH → Prop) → Prop} (h : mJoin kk body)
    (h1 : ∀ s H ρ, kk s H → E ρ s → GoPlan P rd n ops k S2 L2 ρ D (M.join (TT (gh s))) H QP)
    (h2 : ∀ j : σ → PH → Prop, (∀ s H ρ, j s H → E ρ s → GoPlan P rd n ops k S2 L2 ρ D (M.join (TT (gh s))) H QP) → body j → GoPlan P rd n ops k S L ρ D T H QP) : GoPlan P rd n ops k S L ρ D T H QP := h2 kk h1 h
end rules

section
variable {P : Program} {n : Nat} {ρ : Env} {T H : PH} {d : Option Nat} {ty : TypeId} {p : String} {af : Array Edge} {g : Option (Nat × Bool)} {K : Value → PH → PH → Prop}
/-- yield is asked. -/
theorem do_yield {x : Operand} {xs : Array Operand} {ats : Array TypeId} {l j : Nat} {γ : Type} {Tk : Nat → γ → PH} {gg : γ} {Y : List Value → γ → PH → (Nat → γ → PH → Prop) → Prop} {M : PH} {vs : List Value} {KK : Nat → γ → PH → Prop}
    (hx0 : ev ρ x = .func (.yield l) #[] #[]) (hx : xs.toList.map (ev ρ) = vs) (hy : YieldOk P l Tk Y) (hA : Apt M fun q : Nat × γ => Tk q.1 q.2) (hj : j = 0) (h : Y vs gg H KK)
    (hk : ∀ j' g' H', KK j' g' H' → K (.bool (j' == 0)) (M.join (Tk j' g')) H') : OpDo P ρ ⟨d, .call ⟨.value x, xs, ats⟩, ty, p, af, g⟩ (M.join (Tk j gg)) H K := ⟨rfl, fun w ho => by
  subst hj
  have hs : Sub (Tk 0 gg) (M.join (Tk 0 gg)) := fun b o hb => by
    cases hm : M b with
    | none => rw [join_none hm]; exact hb
    | some y =>
      have : Tk 0 gg b = none := hA b (0, gg) (by rw [hm]; simp)
      rw [this] at hb; cases hb
  obtain ⟨fn, tmps, assign, body, hrun, hro⟩ := hy vs gg H KK h w (ho.less hs)
  refine .inr (.inr (.inr ⟨l, fn, tmps, assign, body, ?_, fun c cs => ?_⟩))
  · simp [execOp, resolve, hx0, map_ev hx, Deferred.ofValue, Sem.run_bind, Sem.run_pure, Result.andThen, invoke, hrun]
  · obtain ⟨v, w', ⟨j', g', H', rfl, hfr, hkk⟩, hst⟩ := hro c cs
    exact ⟨_, w', ⟨_, H', hfr.joined ho (fun b hb => hA b (0, gg) hb) (fun b hb => hA b (j', g') hb), hk _ _ _ hkk⟩, hst⟩⟩
/-- A closure is called. -/
theorem do_callC {x : Operand} {xs : Array Operand} {ats : Array TypeId} {v : Value} {vs : List Value} {R : Value → PH → Prop} (hx0 : ev ρ x = v) (hx : xs.toList.map (ev ρ) = vs) (hc : CallV P v vs H R)
    (h : ∀ v H', R v H' → K v T H') : OpDo P ρ ⟨d, .call ⟨.value x, xs, ats⟩, ty, p, af, g⟩ T H K := ⟨rfl, fun w ho => by
  obtain ⟨f, fi, ca, rfl, hf, hcc⟩ := hc
  refine .inr (.inr (.inl ⟨f, (fi ++ vs.toArray ++ ca), ?_, ?_⟩))
  · simp [execOp, resolve, hx0, map_ev hx, Deferred.ofValue, Sem.run_bind, Sem.run_pure, Result.andThen, invoke, hf _ _]
  · exact (hcc.beside w ho).mono fun e w' ⟨v, T', H', h1, h2, h3, h4⟩ => ⟨v, T', H', h1, h2, h3 ▸ h v H' h4⟩⟩

theorem mk_dok {G : Type} {D : List Deferred} {M : PH} {TT : G → PH} {g : G} (hM : Mk none D M) (hA : Apt M TT) : DOk D (M.join (TT g)) (TT g) := by
  obtain ⟨rs, rfl, h2, h3⟩ := hM
  refine ⟨rs, rfl, h2, fun r hr => join_some (h3 r hr), fun b o hb => ⟨?_, fun hr => ?_⟩⟩
  · cases hm : M b with
    | none => rw [join_none hm]; exact hb
    | some y => have := hA b g (by rw [hm]; simp); rw [this] at hb; cases hb
  · have := hA b g (by rw [h3 b hr]; simp); rw [this] at hb; cases hb
/-- The contract of a function with walks in it. -/
theorem callsH_of_goM {f : FuncId} {fn : Func} {c : Code} {args : Array Value} {R : Value → PH → Prop} (hf : P.funcs[f]? = some fn) (hb : fn.body = some c) (hn : fn.ntmps = n) (hs : args.size ≤ n)
    (h : GoM P none n [.code c] (env0 args) PH.none PH.none (fun _ : Unit => PH.none) () H fun fi ρ _ H' => (fi = .ret ∨ fi = .fall) ∧ ∃ v, ResOk P fn ρ H' v ∧ R v H') : CallsH P f args H R := by
  refine callsH_of_go hf hb hn hs ?_
  have := h [] PH.none ⟨[], rfl, by simp, by simp⟩ (fun _ _ h => h) (fun b g h => absurd rfl h)
  rw [join_nn] at this
  refine this.mono fun fi ρ D T' H' hq => ?_
  obtain ⟨M, g, h1, h2, h3, rfl, h4, v, h5, h6⟩ := hq
  exact ⟨h4, v, _, mk_dok (TT := fun _ : Unit => PH.none) (g := ()) h1 h3, h5, h6⟩
/-- The contract of an iterator. -/
theorem iterH_of_goM {f : FuncId} {fn : Func} {c : Code} {fi ca : List Value} {γ : Type} {Y : List Value → γ → PH → (Nat → γ → PH → Prop) → Prop} {gg : γ} {R : Nat → γ → PH → Prop} (hbo : Body P f) (hf : P.funcs[f]? = some fn) (hb : fn.body = some c) (hn : fn.ntmps = n) (hs : fi.length + 1 + ca.length ≤ n)
    (h : ∀ l (Tk : Nat → γ → PH), Dom (fun q : Nat × γ => Tk q.1 q.2) → YieldOk P l Tk Y → GoM P none n [.code c] (env0 (fi ++ .func (.yield l) #[] #[] :: ca).toArray) PH.none PH.none (fun q : Nat × γ => Tk q.1 q.2) (0, gg) H fun fi ρ q H' => (fi = .ret ∨ fi = .fall) ∧ ∃ v, ResOk P fn ρ H' v ∧ R q.1 q.2 H') :
    IterH P (.func (.func f) fi.toArray ca.toArray) Y gg H R := by
  refine ⟨f, _, _, rfl, hbo, fun l Tk hd hy => ?_⟩
  have e : fi.toArray ++ #[.func (.yield l) #[] #[]] ++ ca.toArray = (fi ++ .func (.yield l) #[] #[] :: ca).toArray := by simp
  rw [e]
  refine callsT_of_go hf hb hn (by simp; omega) ?_
  have := h l Tk hd hy [] PH.none ⟨[], rfl, by simp, by simp⟩ (fun _ _ h => (by cases h)) (fun b g h => absurd rfl h)
  rw [join_n] at this
  refine this.mono fun fe ρ D T' H' hq => ?_
  obtain ⟨M, q, h1, h2, h3, rfl, h4, v, h5, h6⟩ := hq
  exact ⟨h4, v, _, mk_dok (TT := fun q : Nat × γ => Tk q.1 q.2) (g := q) h1 h3, h5, q.1, q.2, rfl, h6⟩
end

/-! ### As the printed proofs use them -/
def mYield {γ : Type} (Y : List Value → γ → PH → (Nat → γ → PH → Prop) → Prop) (q : Nat × γ) (vs : List Value) (H : PH) (K : Nat × γ → PH → Prop) : Prop := q.1 = 0 ∧ Y vs q.2 H fun j g H' => K (j, g) H'
def IsFn (v : Value) : Prop := v = .nilFunc ∨ ∃ f fi ca, v = .func f fi ca
def fisNil : Value → Bool
  | .nilFunc => true
  | _ => false
section
variable {P : Program} {ρ : Env} {T H : PH} {d : Option Nat} {ty : TypeId} {p : String} {af : Array Edge} {g : Option (Nat × Bool)} {K : Value → PH → PH → Prop}
theorem do_yieldP {x : Operand} {xs : Array Operand} {ats : Array TypeId} {l : Nat} {γ : Type} {Tk : Nat → γ → PH} {q : Nat × γ} {Y : List Value → γ → PH → (Nat → γ → PH → Prop) → Prop} {M : PH} {vs : List Value} {KK : Nat × γ → PH → Prop}
    (hy : YieldOk P l Tk Y) (hA : Apt M fun q : Nat × γ => Tk q.1 q.2) (hx0 : ev ρ x = .func (.yield l) #[] #[]) (hx : xs.toList.map (ev ρ) = vs) (h : mYield Y q vs H KK)
    (hk : ∀ q' H', KK q' H' → K (.bool (q'.1 == 0)) (M.join ((fun q : Nat × γ => Tk q.1 q.2) q')) H') : OpDo P ρ ⟨d, .call ⟨.value x, xs, ats⟩, ty, p, af, g⟩ (M.join ((fun q : Nat × γ => Tk q.1 q.2) q)) H K :=
  do_yield hx0 hx hy hA h.1 h.2 fun j' g' H' hh => hk (j', g') H' hh
theorem eq_fnN {t : TypeId} {a b : Array TypeId} {c : Bool} {v : Value} {w : World} (n : Nat) (hu : P.underlying t = some (.func a b c)) (hv : IsFn v) : (Op.equalIn (n + 1) t v .nilFunc).run P w = .ok (fisNil v) w := by
  rcases hv with rfl | ⟨f, fi, ca, rfl⟩ <;> simp only [Op.equalIn, Sem.run_bind, run_under hu, Result.andThen, Sem.run_pure, fisNil]
theorem q_eqlFv {x y : Operand} {tx ty2 : TypeId} {a b : Array TypeId} {c : Bool} {v : Value} (hu : P.underlying tx = some (.func a b c)) (hx : ev ρ x = v) (hy : ev ρ y = .nilFunc) (hv : IsFn v) : OpQ P ρ ⟨d, .binOp .eql tx x y ty2, ty, p, af, g⟩ H (.bool (fisNil v)) := ⟨rfl, fun T w ho => by
  have h1 := eq_fnN (w := w) 9999 hu hv
  rcases hv with rfl | ⟨f, fi, ca, rfl⟩ <;> simp only [execOp, hx, hy, eqGuard, binOp, equal_succ, h1, Sem.run_pure, Sem.run_bind, Result.andThen, reduceIte, Bool.not_true, Bool.false_eq_true]⟩
theorem q_neqFv {x y : Operand} {tx ty2 : TypeId} {a b : Array TypeId} {c : Bool} {v : Value} (hu : P.underlying tx = some (.func a b c)) (hx : ev ρ x = v) (hy : ev ρ y = .nilFunc) (hv : IsFn v) : OpQ P ρ ⟨d, .binOp .neq tx x y ty2, ty, p, af, g⟩ H (.bool (!fisNil v)) := ⟨rfl, fun T w ho => by
  have h1 := eq_fnN (w := w) 9999 hu hv
  rcases hv with rfl | ⟨f, fi, ca, rfl⟩ <;> simp only [execOp, hx, hy, eqGuard, binOp, equal_succ, h1, Sem.run_pure, Sem.run_bind, Result.andThen, reduceIte, Bool.not_true, Bool.false_eq_true]⟩
end

section
variable {P : Program} {rd : Option Nat} {n : Nat} {k : List Item} {ρ : Env} {D : List Deferred} {M B B' H T : PH}
variable {G : Type} {TT : G → PH} {g : G} {Q : Fin → Env → G → PH → Prop} {f : Operand} {params : Array Tmp} {assign body : Code} {v : Value} {Y : List Value → G → PH → (Nat → G → PH → Prop) → Prop}
theorem go_range0 {R0 : G → PH → Prop} (it : IterH P v Y g H fun _ q H => R0 q H) (hf : ev ρ f = v) (hdom : Dom TT) (hp : params.toList.all (fun p => decide (p < n)) = true) (hM : Mk rd D M) (hB : Sub B M) (hA : Apt M TT) (hE : EnterOk rd M)
    (hround : ∀ vs g H K, Y vs g H K → vs.length = params.size ∧ ∀ (lp : Nat) (Bx : PH) (r : Loop), r.state = .ready →
      GoM P (some lp) n [.code assign, .beginRound, .code body] (setAll ρ params.toList vs) (Bx.upd lp (.loop r)) (Bx.upd lp (.loop (busyAt r))) TT g H fun f ρ' g' H' => ∃ j, JumpIs [] j f ∧ K j g' H')
    (h0 : ∀ g' H', R0 g' H' → GoM P rd n k ρ B B' TT g' H' Q) :
    Go P rd n (.code (.rangeFunc f params assign body) :: k) ρ D (M.join (TT g)) H (FinM rd B' TT Q) :=
  go_range [] hf it hdom hp hM hB hA hE hround fun j g' H' h => by
    cases j with
    | zero => exact h0 _ _ h
    | succ j => exact h0 _ _ h
theorem go_range1 {c1 : Code} {R0 R1 : G → PH → Prop} (it : IterH P v Y g H fun j q H => mIf (j == 1) (R1 q H) (R0 q H)) (hf : ev ρ f = v) (hdom : Dom TT) (hp : params.toList.all (fun p => decide (p < n)) = true) (hM : Mk rd D M) (hB : Sub B M) (hA : Apt M TT) (hE : EnterOk rd M)
    (hround : ∀ vs g H K, Y vs g H K → vs.length = params.size ∧ ∀ (lp : Nat) (Bx : PH) (r : Loop), r.state = .ready →
      GoM P (some lp) n [.code assign, .beginRound, .code body] (setAll ρ params.toList vs) (Bx.upd lp (.loop r)) (Bx.upd lp (.loop (busyAt r))) TT g H fun f ρ' g' H' => ∃ j, JumpIs [c1] j f ∧ K j g' H')
    (h0 : ∀ g' H', R0 g' H' → GoM P rd n k ρ B B' TT g' H' Q) (h1 : ∀ g' H', R1 g' H' → GoM P rd n (.code c1 :: k) ρ B B' TT g' H' Q) :
    Go P rd n (.code (.rangeFunc f params assign body) :: k) ρ D (M.join (TT g)) H (FinM rd B' TT Q) :=
  go_range [c1] hf it hdom hp hM hB hA hE hround fun j g' H' h => by
    match j, h with
    | 0, h => exact h0 _ _ (h.2 rfl)
    | 1, h => exact h1 _ _ (h.1 rfl)
    | j + 2, h => exact h0 _ _ (h.2 (by simp))
theorem go_range2 {c1 c2 : Code} {R0 R1 R2 : G → PH → Prop} (it : IterH P v Y g H fun j q H => mIf (j == 1) (R1 q H) (mIf (j == 2) (R2 q H) (R0 q H))) (hf : ev ρ f = v) (hdom : Dom TT) (hp : params.toList.all (fun p => decide (p < n)) = true) (hM : Mk rd D M) (hB : Sub B M) (hA : Apt M TT) (hE : EnterOk rd M)
    (hround : ∀ vs g H K, Y vs g H K → vs.length = params.size ∧ ∀ (lp : Nat) (Bx : PH) (r : Loop), r.state = .ready →
      GoM P (some lp) n [.code assign, .beginRound, .code body] (setAll ρ params.toList vs) (Bx.upd lp (.loop r)) (Bx.upd lp (.loop (busyAt r))) TT g H fun f ρ' g' H' => ∃ j, JumpIs [c1, c2] j f ∧ K j g' H')
    (h0 : ∀ g' H', R0 g' H' → GoM P rd n k ρ B B' TT g' H' Q) (h1 : ∀ g' H', R1 g' H' → GoM P rd n (.code c1 :: k) ρ B B' TT g' H' Q) (h2 : ∀ g' H', R2 g' H' → GoM P rd n (.code c2 :: k) ρ B B' TT g' H' Q) :
    Go P rd n (.code (.rangeFunc f params assign body) :: k) ρ D (M.join (TT g)) H (FinM rd B' TT Q) :=
  go_range [c1, c2] hf it hdom hp hM hB hA hE hround fun j g' H' h => by
    match j, h with
    | 0, h => exact h0 _ _ ((h.2 rfl).2 rfl)
    | 1, h => exact h1 _ _ (h.1 rfl)
    | 2, h => exact h2 _ _ ((h.2 rfl).1 rfl)
    | j + 3, h => exact h0 _ _ ((h.2 (by simp)).2 (by simp))
end
end Go.Kx

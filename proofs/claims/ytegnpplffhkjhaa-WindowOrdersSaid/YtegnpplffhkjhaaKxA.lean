/- THE CORE: what a function does to a part of memory (a partial heap), by the machine's own steps. -/
import Derived.Calls
import Derived.Below
namespace Go.Kx

abbrev PH := Nat → Option Obj
abbrev Env := Nat → Value
def PH.upd (H : PH) (b : Nat) (o : Obj) : PH := fun x => if x = b then some o else H x
def PH.none : PH := fun _ => Option.none
def upd (ρ : Env) (i : Nat) (v : Value) : Env := fun j => bif Nat.beq j i then v else ρ j

@[simp] theorem PH.upd_same (H : PH) (b : Nat) (o : Obj) : H.upd b o b = some o := by simp [PH.upd]
theorem PH.upd_other (H : PH) {b c : Nat} (o : Obj) (h : c ≠ b) : H.upd b o c = H c := by simp [PH.upd, h]
theorem upd_same (ρ : Env) (i : Nat) (v : Value) : upd ρ i v i = v := by simp [upd]
theorem upd_other (ρ : Env) {i j : Nat} (v : Value) (h : j ≠ i) : upd ρ i v j = ρ j := by
  have : Nat.beq j i = false := Bool.eq_false_iff.2 fun e => h (Nat.eq_of_beq_eq_true e)
  simp only [upd, this, cond_false]

/-- H: what the code may read and turn; T: what stands for walks that are under way; both lie in w, apart. -/
structure Own (H T : PH) (w : World) : Prop where
  sub : ∀ b o, H b = some o → w.heap[b]? = some o
  tok : ∀ b o, T b = some o → w.heap[b]? = some o
  dis : ∀ b, H b = Option.none ∨ T b = Option.none

structure Fr (H T : PH) (w : World) (H' T' : PH) (w' : World) : Prop where
  own : Own H' T' w'
  size : w.heap.size ≤ w'.heap.size
  keep : ∀ b, b < w.heap.size → H b = Option.none → T b = Option.none → w'.heap[b]? = w.heap[b]? ∧ H' b = Option.none ∧ T' b = Option.none
  os : w'.os = w.os
  output : w'.output = w.output
  tape : w'.tape = w.tape

theorem Own.lt {H T : PH} {w : World} (h : Own H T w) {b : Nat} {o : Obj} (hb : H b = some o) : b < w.heap.size :=
  (Array.getElem?_eq_some_iff.1 (h.sub b o hb)).1
theorem Own.lt' {H T : PH} {w : World} (h : Own H T w) {b : Nat} {o : Obj} (hb : T b = some o) : b < w.heap.size :=
  (Array.getElem?_eq_some_iff.1 (h.tok b o hb)).1
theorem Own.new {H T : PH} {w : World} (h : Own H T w) : H w.heap.size = Option.none ∧ T w.heap.size = Option.none := by
  constructor
  · cases hb : H w.heap.size with
    | none => rfl
    | some o => have := h.lt hb; omega
  · cases hb : T w.heap.size with
    | none => rfl
    | some o => have := h.lt' hb; omega

theorem Fr.refl {H T : PH} {w : World} (h : Own H T w) : Fr H T w H T w :=
  ⟨h, Nat.le_refl _, fun _ _ h1 h2 => ⟨rfl, h1, h2⟩, rfl, rfl, rfl⟩

theorem Fr.trans {H T H1 T1 H2 T2 : PH} {w w1 w2 : World} (h : Fr H T w H1 T1 w1) (k : Fr H1 T1 w1 H2 T2 w2) : Fr H T w H2 T2 w2 :=
  ⟨k.own, Nat.le_trans h.size k.size, fun b hb h1 h2 => by
    obtain ⟨e1, a1, a2⟩ := h.keep b hb h1 h2
    obtain ⟨e2, b1, b2⟩ := k.keep b (Nat.lt_of_lt_of_le hb h.size) a1 a2
    exact ⟨e2.trans e1, b1, b2⟩, k.os.trans h.os, k.output.trans h.output, k.tape.trans h.tape⟩

/-- Less may be claimed in the end. -/
theorem Fr.weaken {H T H1 T1 H2 T2 : PH} {w w1 : World} (h : Fr H T w H1 T1 w1) (hH : ∀ b o, H2 b = some o → H1 b = some o) (hT : ∀ b o, T2 b = some o → T1 b = some o) : Fr H T w H2 T2 w1 := by
  have n1 : ∀ b, H1 b = Option.none → H2 b = Option.none := fun b hb => by
    cases h2 : H2 b with
    | none => rfl
    | some o => rw [hH b o h2] at hb; cases hb
  have n2 : ∀ b, T1 b = Option.none → T2 b = Option.none := fun b hb => by
    cases h2 : T2 b with
    | none => rfl
    | some o => rw [hT b o h2] at hb; cases hb
  exact ⟨⟨fun b o hb => h.own.sub b o (hH b o hb), fun b o hb => h.own.tok b o (hT b o hb), fun b => (h.own.dis b).imp (n1 b) (n2 b)⟩, h.size,
    fun b hb h1 h2 => by obtain ⟨e, a1, a2⟩ := h.keep b hb h1 h2; exact ⟨e, n1 b a1, n2 b a2⟩, h.os, h.output, h.tape⟩

/-- Without tokens: what a call keeps holds for tokens that stand beside. -/
theorem Fr.beside {H H' : PH} {T : PH} {w w' : World} (h : Fr H PH.none w H' PH.none w') (ho : Own H T w) : Fr H T w H' T w' := by
  refine ⟨⟨h.own.sub, fun b o hb => ?_, fun b => ?_⟩, h.size, fun b hb h1 h2 => ?_, h.os, h.output, h.tape⟩
  · have hH : H b = Option.none := (ho.dis b).resolve_right (by rw [hb]; simp)
    rw [(h.keep b (ho.lt' hb) hH rfl).1]; exact ho.tok b o hb
  · cases hT : T b with
    | none => exact .inr rfl
    | some o =>
      have hH : H b = Option.none := (ho.dis b).resolve_right (by rw [hT]; simp)
      exact .inl (h.keep b (ho.lt' hT) hH rfl).2.1
  · obtain ⟨e, a1, _⟩ := h.keep b hb h1 rfl; exact ⟨e, a1, h2⟩
theorem Own.noTok {H T : PH} {w : World} (h : Own H T w) : Own H PH.none w := { sub := h.sub, tok := fun _ _ h => (by cases h), dis := fun _ => .inr rfl }

/-- A new block. -/
theorem Fr.alloc {H T : PH} {w : World} (h : Own H T w) (o : Obj) : Fr H T w (H.upd w.heap.size o) T (w.alloc o) := by
  have hn := h.new
  refine ⟨⟨fun b x hb => ?_, fun b x hb => ?_, fun b => ?_⟩, by simp, fun b hb h1 h2 => ⟨Go.RowKit.Below.heap_alloc _ _ _ hb, ?_, h2⟩, rfl, rfl, rfl⟩
  · by_cases e : b = w.heap.size
    · subst e; simp at hb; subst hb; show (w.heap.push o)[w.heap.size]? = _; simp
    · rw [PH.upd_other _ _ e] at hb; rw [Go.RowKit.Below.heap_alloc _ _ _ (h.lt hb)]; exact h.sub b x hb
  · rw [Go.RowKit.Below.heap_alloc _ _ _ (h.lt' hb)]; exact h.tok b x hb
  · by_cases e : b = w.heap.size
    · subst e; exact .inr hn.2
    · rw [PH.upd_other _ _ e]; exact h.dis b
  · rw [PH.upd_other _ _ (by omega)]; exact h1

/-- A new block among the tokens. -/
theorem Fr.allocTok {H T : PH} {w : World} (h : Own H T w) (o : Obj) : Fr H T w H (T.upd w.heap.size o) (w.alloc o) := by
  have hn := h.new
  refine ⟨⟨fun b x hb => ?_, fun b x hb => ?_, fun b => ?_⟩, by simp, fun b hb h1 h2 => ⟨Go.RowKit.Below.heap_alloc _ _ _ hb, h1, ?_⟩, rfl, rfl, rfl⟩
  · rw [Go.RowKit.Below.heap_alloc _ _ _ (h.lt hb)]; exact h.sub b x hb
  · by_cases e : b = w.heap.size
    · subst e; simp at hb; subst hb; show (w.heap.push o)[w.heap.size]? = _; simp
    · rw [PH.upd_other _ _ e] at hb; rw [Go.RowKit.Below.heap_alloc _ _ _ (h.lt' hb)]; exact h.tok b x hb
  · by_cases e : b = w.heap.size
    · subst e; exact .inl hn.1
    · rw [PH.upd_other _ _ e]; exact h.dis b
  · rw [PH.upd_other _ _ (by omega)]; exact h2

/-- A block of H turns. -/
theorem Fr.put {H T : PH} {w w' : World} (h : Own H T w) {b : Nat} {o o' : Obj} (hb : H b = some o) (hw : w'.heap = w.heap.setIfInBounds b o') (hos : w'.os = w.os) (hout : w'.output = w.output) (ht : w'.tape = w.tape) : Fr H T w (H.upd b o') T w' := by
  have hlt := h.lt hb
  refine ⟨⟨fun c x hc => ?_, fun c x hc => ?_, fun c => ?_⟩, by rw [hw]; simp, fun c hc h1 h2 => ⟨?_, ?_, h2⟩, hos, hout, ht⟩
  · rw [hw]
    by_cases e : c = b
    · subst e; simp at hc; subst hc; simp [hlt]
    · rw [PH.upd_other _ _ e] at hc; rw [Array.getElem?_setIfInBounds_ne (by omega)]; exact h.sub c x hc
  · rw [hw]
    have : c ≠ b := fun e => by subst e; rcases h.dis c with h1 | h1 <;> simp_all
    rw [Array.getElem?_setIfInBounds_ne (by omega)]; exact h.tok c x hc
  · by_cases e : c = b
    · subst e; exact .inr ((h.dis c).resolve_left (by rw [hb]; simp))
    · rw [PH.upd_other _ _ e]; exact h.dis c
  · have : c ≠ b := fun e => by subst e; simp_all
    rw [hw, Array.getElem?_setIfInBounds_ne (by omega)]
  · have : c ≠ b := fun e => by subst e; simp_all
    rw [PH.upd_other _ _ this]; exact h1

/-- A token turns. -/
theorem Fr.putTok {H T : PH} {w w' : World} (h : Own H T w) {b : Nat} {o o' : Obj} (hb : T b = some o) (hw : w'.heap = w.heap.setIfInBounds b o') (hos : w'.os = w.os) (hout : w'.output = w.output) (ht : w'.tape = w.tape) : Fr H T w H (T.upd b o') w' := by
  have hlt := h.lt' hb
  refine ⟨⟨fun c x hc => ?_, fun c x hc => ?_, fun c => ?_⟩, by rw [hw]; simp, fun c hc h1 h2 => ⟨?_, h1, ?_⟩, hos, hout, ht⟩
  · rw [hw]
    have : c ≠ b := fun e => by subst e; rcases h.dis c with h1 | h1 <;> simp_all
    rw [Array.getElem?_setIfInBounds_ne (by omega)]; exact h.sub c x hc
  · rw [hw]
    by_cases e : c = b
    · subst e; simp at hc; subst hc; simp [hlt]
    · rw [PH.upd_other _ _ e] at hc; rw [Array.getElem?_setIfInBounds_ne (by omega)]; exact h.tok c x hc
  · by_cases e : c = b
    · subst e; exact .inl ((h.dis c).resolve_right (by rw [hb]; simp))
    · rw [PH.upd_other _ _ e]; exact h.dis c
  · have : c ≠ b := fun e => by subst e; simp_all
    rw [hw, Array.getElem?_setIfInBounds_ne (by omega)]
  · have : c ≠ b := fun e => by subst e; simp_all
    rw [PH.upd_other _ _ this]; exact h2

theorem Fr.drew {H T : PH} {w : World} (h : Own H T w) : Fr H T w H T w.drew := ⟨⟨h.sub, h.tok, h.dis⟩, Nat.le_refl _, fun _ _ h1 h2 => ⟨rfl, h1, h2⟩, rfl, rfl, rfl⟩

/-! ### The machine's frames -/
def mk (b : Frame) (t : Array Value) (D : List Deferred) (k : List Item) : Frame := { b with tmps := t, defers := D, todo := k, mode := .run }
def TOk (n : Nat) (ρ : Env) (t : Array Value) : Prop := t.size = n ∧ ∀ i, t.getD i undef = ρ i
def ev (ρ : Env) : Operand → Value
  | .tmp t => ρ t
  | .const v => v
  | .global g => .pointer (some ⟨g, 0, Option.none⟩)
  | .func f => .func (.func f) #[] #[]

theorem eval_mk {n : Nat} {ρ : Env} {t : Array Value} (h : TOk n ρ t) (b : Frame) (D : List Deferred) (k : List Item) : (mk b t D k).eval = ev ρ := by
  funext x
  cases x with
  | tmp i => exact h.2 i
  | _ => rfl

theorem TOk.put {n : Nat} {ρ : Env} {t : Array Value} (h : TOk n ρ t) {d : Nat} (hd : d < n) (v : Value) : TOk n (upd ρ d v) (t.setIfInBounds d v) := by
  refine ⟨by simp [h.1], fun i => ?_⟩
  by_cases e : i = d
  · subst e; simp [upd, Array.getD_eq_getD_getElem?, h.1, hd]
  · rw [upd_other _ _ e, ← h.2 i]; simp [Array.getD_eq_getD_getElem?, Array.getElem?_setIfInBounds_ne (Ne.symm e)]

inductive Fin where
  | ret
  | fall
  | exit (id : Nat)
def FinAt : Fin → List Item → Prop
  | .fall, k => k = []
  | .ret, k => ∃ r, k = .code .ret :: r
  | .exit id, k => ∃ r, k = .code (.exit id) :: r ∧ exitTo id r = Option.none

abbrev Post := Fin → Env → List Deferred → PH → PH → Prop

/-- FROM 'todo = k' the frame comes to its end, in a state that Q takes. -/
def Go (P : Program) (rd : Option Nat) (n : Nat) (k : List Item) (ρ : Env) (D : List Deferred) (T H : PH) (Q : Post) : Prop :=
  ∀ (b : Frame) (cs : List Frame) (t : Array Value) (w : World), b.roundOf = rd → TOk n ρ t → Own H T w →
    ∃ f k' t' ρ' D' T' H' w', Steps P (lone (mk b t D k) cs w) (lone (mk b t' D' k') cs w') ∧ FinAt f k' ∧ TOk n ρ' t' ∧ Fr H T w H' T' w' ∧ Q f ρ' D' T' H'

section rules
variable {P : Program} {rd : Option Nat} {n : Nat} {k : List Item} {ρ : Env} {D : List Deferred} {T H : PH} {Q : Post}

theorem Go.mono {Q' : Post} (h : Go P rd n k ρ D T H Q) (hq : ∀ f ρ D T H, Q f ρ D T H → Q' f ρ D T H) : Go P rd n k ρ D T H Q' :=
  fun b cs t w hb ht ho => let ⟨f, k', t', ρ', D', T', H', w', a1, a2, a3, a4, a5⟩ := h b cs t w hb ht ho; ⟨f, k', t', ρ', D', T', H', w', a1, a2, a3, a4, hq _ _ _ _ _ a5⟩

theorem Go.fall (h : Q .fall ρ D T H) : Go P rd n [] ρ D T H Q := fun _ _ t w _ ht ho => ⟨.fall, [], t, ρ, D, T, H, w, .refl _ _, rfl, ht, .refl ho, h⟩
theorem Go.ret (h : Q .ret ρ D T H) : Go P rd n (.code .ret :: k) ρ D T H Q := fun _ _ t w _ ht ho => ⟨.ret, _, t, ρ, D, T, H, w, .refl _ _, ⟨_, rfl⟩, ht, .refl ho, h⟩
theorem Go.exitOut {id : Nat} (he : exitTo id k = Option.none) (h : Q (.exit id) ρ D T H) : Go P rd n (.code (.exit id) :: k) ρ D T H Q := fun _ _ t w _ ht ho => ⟨.exit id, _, t, ρ, D, T, H, w, .refl _ _, ⟨_, rfl, he⟩, ht, .refl ho, h⟩

theorem Go.step {k2 : List Item} (hs : ∀ b cs t w, TOk n ρ t → step P (lone (mk b t D k) cs w) = .next (lone (mk b t D k2) cs w)) (h : Go P rd n k2 ρ D T H Q) : Go P rd n k ρ D T H Q := by
  intro b cs t w hb ht ho
  obtain ⟨f, k', t', ρ', D', T', H', w', a1, a2⟩ := h b cs t w hb ht ho
  exact ⟨f, k', t', ρ', D', T', H', w', .head (hs b cs t w ht) a1, a2⟩

theorem Go.skip (h : Go P rd n k ρ D T H Q) : Go P rd n (.code .skip :: k) ρ D T H Q := .step (fun b cs t w _ => step_lone_go (by simp [stepG, stepG.exec, mk])) h
theorem Go.label {l : Nat} (h : Go P rd n k ρ D T H Q) : Go P rd n (.code (.label l) :: k) ρ D T H Q := .step (fun b cs t w _ => step_lone_go (by simp [stepG, stepG.exec, mk])) h
theorem Go.inBlock {l : Nat} (h : Go P rd n k ρ D T H Q) : Go P rd n (.inBlock l :: k) ρ D T H Q := .step (fun b cs t w _ => step_lone_go (by simp [stepG, stepG.exec, mk])) h
theorem Go.inScope {c : Code} (h : Go P rd n k ρ D T H Q) : Go P rd n (.inScope c :: k) ρ D T H Q := .step (fun b cs t w _ => step_lone_go (by simp [stepG, stepG.exec, mk])) h
theorem Go.scope {c : Code} (h : Go P rd n (.code c :: .inScope c :: k) ρ D T H Q) : Go P rd n (.code (.scope c) :: k) ρ D T H Q := .step (fun b cs t w _ => step_lone_go (by simp [stepG, stepG.exec, mk])) h
theorem Go.seq {x y : Code} (h : Go P rd n (.code x :: .code y :: k) ρ D T H Q) : Go P rd n (.code (.seq x y) :: k) ρ D T H Q := .step (fun b cs t w _ => step_lone_go (by simp [stepG, stepG.exec, mk])) h
theorem Go.block {id : Nat} {c : Code} (h : Go P rd n (.code c :: .inBlock id :: k) ρ D T H Q) : Go P rd n (.code (.block id c) :: k) ρ D T H Q := .step (fun b cs t w _ => step_lone_go (by simp [stepG, stepG.exec, mk])) h
theorem Go.cond {c : Operand} {x y : Code} {t : Bool} (hc : ev ρ c = .bool t) (h : Go P rd n (.code (if t then x else y) :: k) ρ D T H Q) : Go P rd n (.code (.cond c x y) :: k) ρ D T H Q :=
  .step (fun b cs tm w ht => step_lone_go (by
    have := congrFun (eval_mk ht b D (.code (.cond c x y) :: k)) c
    simp only [mk] at this
    simp [stepG, stepG.exec, mk, this, hc])) h
theorem Go.condT {c : Operand} {x y : Code} (hc : ev ρ c = .bool true) (h : Go P rd n (.code x :: k) ρ D T H Q) : Go P rd n (.code (.cond c x y) :: k) ρ D T H Q := Go.cond hc h
theorem Go.condF {c : Operand} {x y : Code} (hc : ev ρ c = .bool false) (h : Go P rd n (.code y :: k) ρ D T H Q) : Go P rd n (.code (.cond c x y) :: k) ρ D T H Q := Go.cond hc h
theorem Go.exit {id : Nat} {k' : List Item} (he : exitTo id k = some k') (h : Go P rd n k' ρ D T H Q) : Go P rd n (.code (.exit id) :: k) ρ D T H Q :=
  .step (fun b cs t w _ => step_lone_go (by simp [stepG, stepG.exec, mk, he])) h

/-- A loop: I at its head, μ goes down from head to head. -/
theorem Go.loop {c : Code} (I : Env → PH → Prop) (μ : Env → PH → Nat) (h0 : I ρ H)
    (round : ∀ ρ H, I ρ H → (∀ ρ' H', I ρ' H' → μ ρ' H' < μ ρ H → Go P rd n (.inLoop c :: k) ρ' D T H' Q) → Go P rd n (.code c :: .inLoop c :: k) ρ D T H Q) :
    Go P rd n (.code (.loop c) :: k) ρ D T H Q := by
  refine Go.step (k2 := .code c :: .inLoop c :: k) (fun b cs t w _ => step_lone_go (by simp [stepG, stepG.exec, mk])) ?_
  have key : ∀ m ρ H, I ρ H → μ ρ H = m → Go P rd n (.code c :: .inLoop c :: k) ρ D T H Q := by
    intro m
    induction m using Nat.strongRecOn with
    | _ m ih =>
      intro ρ H hI hm
      refine round ρ H hI fun ρ' H' hI' hlt => ?_
      exact .step (fun b cs t w _ => step_lone_go (by simp [stepG, stepG.exec, mk])) (ih _ (hm ▸ hlt) ρ' H' hI' rfl)
  exact key _ ρ H h0 rfl
end rules
end Go.Kx

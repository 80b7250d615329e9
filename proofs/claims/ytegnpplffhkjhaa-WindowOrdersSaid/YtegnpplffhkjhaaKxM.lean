/- THE PLAIN LANGUAGE: what a function does to a partial heap, as a formula with continuations; and how the machine's way follows it. -/
import Derived.Test.YtegnpplffhkjhaaKxE
set_option linter.unusedVariables false
set_option linter.unusedSimpArgs false
namespace Go.Kx

structure Sl where
  a : Option Addr
  len : Nat
  cap : Nat
abbrev Sl.v (s : Sl) : Value := .slice s.a s.len s.cap
abbrev Sl.nil : Sl := ⟨none, 0, 0⟩

/-! ### Control -/
def mIf (c : Bool) (a b : Prop) : Prop := (c = true → a) ∧ (c = false → b)
def mJoin {σ : Type} (k : σ → PH → Prop) (body : (σ → PH → Prop) → Prop) : Prop := body k
def mLoop {σ : Type} (body : σ → PH → (σ → PH → Prop) → Prop) (s0 : σ) (H0 : PH) : Prop :=
  ∃ I : Nat → σ → PH → Prop, (∃ m, I m s0 H0) ∧ ∀ m s H, I m s H → body s H fun s' H' => ∃ m', m' < m ∧ I m' s' H'

theorem mIf_true (a b : Prop) : mIf true a b = a := by simp [mIf]
theorem mIf_false (a b : Prop) : mIf false a b = b := by simp [mIf]
theorem mIf_and {c t : Bool} {k : Bool → Prop} : mIf c (k t) (k false) = k (c && t) := by cases c <;> simp [mIf]
theorem mIf_or {c t : Bool} {k : Bool → Prop} : mIf c (k true) (k t) = k (c || t) := by cases c <;> simp [mIf]

/-! ### Memory -/
def mNil (p : Option Addr) (K : Addr → Prop) : Prop := ∃ a, p = some a ∧ K a
def mLd {α : Type} (enc : α → Value) (H : PH) (a : Addr) (K : α → Prop) : Prop := ∃ x, cellAt H a = some (enc x) ∧ K x
def mLdA (H : PH) (a : Addr) (n : Nat) (K : List Value → Prop) : Prop := ∃ cs, cellsAt H a n = some cs ∧ K cs
def mSt (H : PH) (a : Addr) (vs : List Value) (K : PH → Prop) : Prop :=
  ∃ b off cs e, a = ⟨b, off, none⟩ ∧ H b = some (row cs e) ∧ off + vs.length ≤ cs.length ∧ vs.all cellV = true ∧ K (H.upd b (row (putAt cs off vs) e))
def IdxS (s : Sl) (size : Nat) (i : Int) (a : Addr) : Prop := ∃ a0, s.a = some a0 ∧ 0 ≤ i ∧ i < s.len ∧ a = a0.add (i.toNat * size)
def mIdx (s : Sl) (size : Nat) (i : Int) (K : Addr → Prop) : Prop := ∃ a, IdxS s size i a ∧ K a
def IdxA (n : Nat) (a0 : Addr) (size : Nat) (i : Int) (a : Addr) : Prop := 0 ≤ i ∧ i < n ∧ a = a0.add (i.toNat * size)
def mIdxA (n : Nat) (a0 : Addr) (size : Nat) (i : Int) (K : Addr → Prop) : Prop := ∃ a, IdxA n a0 size i a ∧ K a
/-- A new block. -/
def NewA (H : PH) (o : Obj) (a : Addr) (H' : PH) : Prop := ∃ b, H b = none ∧ a = ⟨b, 0, none⟩ ∧ H' = H.upd b o
def NewS (H : PH) (o : Obj) (n c : Nat) (r : Sl) (H' : PH) : Prop := ∃ b, H b = none ∧ r = ⟨some ⟨b, 0, none⟩, n, c⟩ ∧ H' = H.upd b o
def mNew (H : PH) (o : Obj) (K : Addr → PH → Prop) : Prop := ∀ a H', NewA H o a H' → K a H'
def mNewS (H : PH) (o : Obj) (n : Nat) (K : Sl → PH → Prop) : Prop := ∀ r H', NewS H o n n r H' → K r H'
def MkOk (m : Nat) (n c : Int) : Prop := 0 ≤ n ∧ n ≤ c ∧ (m : Int) * c ≤ 2 ^ 48
def mMk (H : PH) (e m : Nat) (zs : List Value) (n c : Int) (K : Sl → PH → Prop) : Prop :=
  MkOk m n c ∧ ∀ r H', NewS H (row (zeros c.toNat zs) e) n.toNat c.toNat r H' → K r H'
def Sl.cut (s : Sl) (size lo hi : Nat) : Sl := ⟨if s.cap = lo then s.a else s.a.map (·.add (lo * size)), hi - lo, s.cap - lo⟩
def CutS (s : Sl) (size : Nat) (lo hi : Int) (r : Sl) : Prop := 0 ≤ lo ∧ lo ≤ hi ∧ hi ≤ s.cap ∧ s.len ≤ s.cap ∧ r = s.cut size lo.toNat hi.toNat
def mCut (s : Sl) (size : Nat) (lo hi : Int) (K : Sl → Prop) : Prop := ∃ r, CutS s size lo hi r ∧ K r
/-- A value of a list of cells (a struct, an array). -/
def mGet {α : Type} (enc : α → Value) (cs : List Value) (i : Nat) (K : α → Prop) : Prop := ∃ x, cs[i]? = some (enc x) ∧ K x
def mGetI {α : Type} (enc : α → Value) (n : Nat) (cs : List Value) (i : Int) (K : α → Prop) : Prop := 0 ≤ i ∧ i < n ∧ ∃ x, cs[i.toNat]? = some (enc x) ∧ K x
def mBoth (A K : Prop) : Prop := A ∧ K
def mNewSI (H : PH) (o : Obj) (n c : Int) (K : Sl → PH → Prop) : Prop := ∀ r H', NewS H o n.toNat c.toNat r H' → K r H'
def mSame (H : PH) (a : Addr) (v : Value) (K : Prop) : Prop := cellAt H a = some v ∧ K
def mSameA (H : PH) (a : Addr) (n : Nat) (cs : List Value) (K : Prop) : Prop := cellsAt H a n = some cs ∧ K
def mNe (b : Int) (K : Prop) : Prop := b ≠ 0 ∧ K
def mGe (b : Int) (K : Prop) : Prop := 0 ≤ b ∧ K

section
variable {P : Program} {rd : Option Nat} {n : Nat} {k : List Item} {ρ : Env} {D : List Deferred} {T H : PH} {Q : Post} {ops : Array Oper} {l : List Oper} {i : Nat}

/-- The ways meet again behind m more items. -/
theorem join_go {σ : Type} (m : Nat) (E : Env → σ → Prop) {kk : σ → PH → Prop} {body : (σ → PH → Prop) → Prop} (h : mJoin kk body)
    (h1 : ∀ s H ρ, kk s H → E ρ s → Go P rd n (k.drop m) ρ D T H Q)
    (h2 : ∀ j : σ → PH → Prop, (∀ s H ρ, j s H → E ρ s → Go P rd n (k.drop m) ρ D T H Q) → body j → Go P rd n k ρ D T H Q) : Go P rd n k ρ D T H Q := h2 kk h1 h
/-- The ways meet again behind m more operations. -/
theorem join_ops {σ : Type} (m : Nat) (E : Env → σ → Prop) {kk : σ → PH → Prop} {body : (σ → PH → Prop) → Prop} (h : mJoin kk body)
    (h1 : ∀ s H ρ, kk s H → E ρ s → GoOps P rd n ops (l.drop m) (i + m) k ρ D T H Q)
    (h2 : ∀ j : σ → PH → Prop, (∀ s H ρ, j s H → E ρ s → GoOps P rd n ops (l.drop m) (i + m) k ρ D T H Q) → body j → GoOps P rd n ops l i k ρ D T H Q) : GoOps P rd n ops l i k ρ D T H Q := h2 kk h1 h

theorem loop_go {σ : Type} {c : Code} {bodyM : σ → PH → (σ → PH → Prop) → Prop} {s0 : σ} (E : Env → σ → Prop) (h : mLoop bodyM s0 H) (hE : E ρ s0)
    (round : ∀ ρ s H again, E ρ s → bodyM s H again → (∀ s' H' ρ', again s' H' → E ρ' s' → Go P rd n (.inLoop c :: k) ρ' D T H' Q) → Go P rd n (.code c :: .inLoop c :: k) ρ D T H Q) :
    Go P rd n (.code (.loop c) :: k) ρ D T H Q := by
  obtain ⟨I, ⟨m0, h0⟩, hr⟩ := h
  refine Go.step (k2 := .code c :: .inLoop c :: k) (fun b cs t w _ => step_lone_go (by simp [stepG, stepG.exec, mk])) ?_
  have key : ∀ m s H ρ, E ρ s → I m s H → Go P rd n (.code c :: .inLoop c :: k) ρ D T H Q := by
    intro m
    induction m using Nat.strongRecOn with
    | _ m ih =>
      intro s H ρ hE hI
      refine round ρ s H _ hE (hr m s H hI) fun s' H' ρ' ⟨m', hlt, hI'⟩ hE' => ?_
      exact .step (fun b cs t w _ => step_lone_go (by simp [stepG, stepG.exec, mk])) (ih m' hlt s' H' ρ' hE' hI')
  exact key m0 s0 H ρ hE h0

theorem want_yes {o : Oper} {j d : Nat} {w c : Bool} (hg : o.guard = some (j, w)) (hd : (ops[j]?).bind (·.dst) = some d) (hv : ρ d = .bool c) (hc : c = w) : want ops ρ o = true := by
  simp [want, hg, gval, hd, hv, hc]
theorem want_no {o : Oper} {j d : Nat} {w c : Bool} (hg : o.guard = some (j, w)) (hd : (ops[j]?).bind (·.dst) = some d) (hv : ρ d = .bool c) (hc : c = !w) : want ops ρ o = false := by
  simp [want, hg, gval, hd, hv, hc]
theorem want_undef {o : Oper} {j d : Nat} {w : Bool} (hg : o.guard = some (j, w)) (hd : (ops[j]?).bind (·.dst) = some d) (hv : ρ d = undef) : want ops ρ o = false := by
  simp [want, hg, gval, hd, hv, undef]
theorem no_dst {o : Oper} {d : Nat} (hw : want ops ρ o = false) (hd : o.dst = some d) (hdn : d < n) (h : GoOps P rd n ops l (i + 1) k (upd ρ d undef) D T H Q) : GoOps P rd n ops (o :: l) i k ρ D T H Q :=
  .no hw (fun x hx => by rw [hd] at hx; cases hx; exact hdn) (by rw [hd]; exact h)
/-- An operation that turns memory, with a slot for its value. -/
theorem op_dst {o : Oper} {d : Nat} (hw : want ops ρ o = true) (hd : o.dst = some d) (hdn : d < n) (h : OpDo P ρ o T H fun v T' H' => GoOps P rd n ops l (i + 1) k (upd ρ d v) D T' H' Q) : GoOps P rd n ops (o :: l) i k ρ D T H Q :=
  .op hw (fun x hx => by rw [hd] at hx; cases hx; exact hdn) (by rw [hd]; exact h)
theorem op_none {o : Oper} (hw : want ops ρ o = true) (hd : o.dst = none) (h : OpDo P ρ o T H fun v T' H' => GoOps P rd n ops l (i + 1) k ρ D T' H' Q) : GoOps P rd n ops (o :: l) i k ρ D T H Q :=
  .op hw (fun x hx => by rw [hd] at hx; cases hx) (by rw [hd]; exact h)
/-- A call, with a slot for its value. -/
theorem call_dst {xs : Array Operand} {ats : Array TypeId} {f : FuncId} {vs : List Value} {R : Value → PH → Prop} {d : Nat} {ty : TypeId} {p : String} {af : Array Edge} {g : Option (Nat × Bool)}
    (hw : want ops ρ ⟨some d, .call ⟨.value (.func f), xs, ats⟩, ty, p, af, g⟩ = true) (hdn : d < n) (hf : Body P f) (hc : CallsH P f vs.toArray H R) (hx : xs.toList.map (ev ρ) = vs)
    (h : ∀ v H', R v H' → GoOps P rd n ops l (i + 1) k (upd ρ d v) D T H' Q) : GoOps P rd n ops (⟨some d, .call ⟨.value (.func f), xs, ats⟩, ty, p, af, g⟩ :: l) i k ρ D T H Q :=
  op_dst hw rfl hdn (do_call hf hx hc h)
theorem call_none {xs : Array Operand} {ats : Array TypeId} {f : FuncId} {vs : List Value} {R : Value → PH → Prop} {ty : TypeId} {p : String} {af : Array Edge} {g : Option (Nat × Bool)}
    (hw : want ops ρ ⟨none, .call ⟨.value (.func f), xs, ats⟩, ty, p, af, g⟩ = true) (hf : Body P f) (hc : CallsH P f vs.toArray H R) (hx : xs.toList.map (ev ρ) = vs)
    (h : ∀ v H', R v H' → GoOps P rd n ops l (i + 1) k ρ D T H' Q) : GoOps P rd n ops (⟨none, .call ⟨.value (.func f), xs, ats⟩, ty, p, af, g⟩ :: l) i k ρ D T H Q :=
  op_none hw rfl (do_call hf hx hc h)

theorem ls1 {α : Type} {a a' : α} (h : a = a') : [a] = [a'] := by rw [h]
theorem ls2 {α : Type} {a a' b b' : α} (h : a = a') (h2 : b = b') : [a, b] = [a', b'] := by rw [h, h2]
theorem ls3 {α : Type} {a a' b b' c c' : α} (h : a = a') (h2 : b = b') (h3 : c = c') : [a, b, c] = [a', b', c'] := by rw [h, h2, h3]
theorem ls4 {α : Type} {a a' b b' c c' d d' : α} (h : a = a') (h2 : b = b') (h3 : c = c') (h4 : d = d') : [a, b, c, d] = [a', b', c', d'] := by rw [h, h2, h3, h4]
theorem ls5 {α : Type} {a a' b b' c c' d d' e e' : α} (h : a = a') (h2 : b = b') (h3 : c = c') (h4 : d = d') (h5 : e = e') : [a, b, c, d, e] = [a', b', c', d', e'] := by rw [h, h2, h3, h4, h5]
theorem ls6 {α : Type} {a a' b b' c c' d d' e e' f f' : α} (h : a = a') (h2 : b = b') (h3 : c = c') (h4 : d = d') (h5 : e = e') (h6 : f = f') : [a, b, c, d, e, f] = [a', b', c', d', e', f'] := by rw [h, h2, h3, h4, h5, h6]
end
end Go.Kx

/- A REGION THAT DRAWS ITS ORDER: quiet operations may be planned as early as they may come; what turns or makes memory is met in each order that the edges allow. -/
import Derived.Test.YtegnpplffhkjhaaKxP
import Derived.Orders
set_option linter.unusedVariables false
set_option linter.unusedSimpArgs false
namespace Go.Kx

def edge (ops : Array Oper) (a b : Nat) : Bool := match ops[b]? with | some o => o.after.toList.any (fun e => e.on == a && Region.binds .any e) | none => false
def predsIn (ops : Array Oper) (S j : Nat) : Bool := match ops[j]? with | some o => o.after.toList.all (fun e => !Region.binds .any e || S.testBit e.on) | none => false
def readyS (ops : Array Oper) (S : Nat) : List Nat := (List.range ops.size).filter fun j => !S.testBit j && predsIn ops S j
def looks (ops : Array Oper) (o : Oper) (d : Nat) : Bool := (o.looksAt ops).contains d
def quietOk (ops : Array Oper) (i : Nat) : Bool := match ops[i]? with
  | some o => (match o.dst with
    | some d => !(looks ops o d) && (List.range ops.size).all fun j => j == i || (match ops[j]? with | some oj => (!(looks ops oj d) && oj.dst != some d) || edge ops i j | none => true)
    | none => false)
  | none => false
def isSelect : Op → Bool
  | .select _ _ => true
  | _ => false
def effOk (ops : Array Oper) (j : Nat) : Bool := match ops[j]? with
  | some o => !isSelect o.op && (List.range ops.size).all fun i => i == j || (match o.dst with
    | some d => (match ops[i]? with | some oi => (!(looks ops oi d) && oi.dst != some d) || edge ops i j || edge ops j i | none => true)
    | none => true)
  | none => false
def backOk (ops : Array Oper) : Bool := (List.range ops.size).all fun i => match ops[i]? with | some o => o.after.toList.all (fun e => !Region.binds .any e || decide (e.on < i)) | none => true
def chain (ops : Array Oper) : List Nat → Bool
  | a :: b :: r => edge ops a b && chain ops (b :: r)
  | _ => true

def OpPure (P : Program) (ρ : Env) (o : Oper) (v : Value) : Prop := isDefer o.op = false ∧ isSelect o.op = false ∧ ∀ w, (execOp (ev ρ) o).run P w = .ok (.value v) w
theorem OpPure.q {P : Program} {ρ : Env} {o : Oper} {v : Value} (h : OpPure P ρ o v) (H : PH) : OpQ P ρ o H v := ⟨h.1, fun _ w _ => h.2.2 w⟩

theorem ev_looks {ops : Array Oper} {o : Oper} {ρ ρ' : Env} (h : ∀ x, looks ops o x = true → ρ' x = ρ x) : ∀ x ∈ o.op.operands, ev ρ' x = ev ρ x := by
  intro x hx
  cases x with
  | tmp t => exact h t (by simp only [looks, List.contains_iff_mem]; exact List.mem_append_left _ (List.mem_filterMap.2 ⟨.tmp t, by simpa using hx, rfl⟩))
  | _ => rfl
theorem exec_looks {ops : Array Oper} {o : Oper} {ρ ρ' : Env} (hs : isSelect o.op = false) (h : ∀ x, looks ops o x = true → ρ' x = ρ x) : execOp (ev ρ') o = execOp (ev ρ) o :=
  execOp_congr o (fun cs b e => by rw [e] at hs; cases hs) (ev_looks h)
theorem want_looks {ops : Array Oper} {o : Oper} {ρ ρ' : Env} (h : ∀ x, looks ops o x = true → ρ' x = ρ x) : want ops ρ' o = want ops ρ o := by
  unfold want
  cases hg : o.guard with
  | none => rfl
  | some g =>
    obtain ⟨j, w⟩ := g
    have : gval ops ρ' j = gval ops ρ j := by
      unfold gval
      cases hd : (ops[j]?).bind (·.dst) with
      | none => rfl
      | some d =>
        have := h d (by simp only [looks, List.contains_iff_mem, Oper.looksAt, hg, hd]; simp)
        simp only [this]
    simp only [this]

section
variable {P : Program} {rd : Option Nat} {n : Nat} {k : List Item} {D : List Deferred} {T H : PH} {Q : Post} {ops : Array Oper}

/-- An operation that is planned and may not have been done yet: what it will give. -/
def LagOp (P : Program) (ops : Array Oper) (ρ : Env) (H : PH) (L : List Nat) (i : Nat) (o : Oper) : Prop :=
  ∃ d, o.dst = some d ∧ quietOk ops i = true ∧ isSelect o.op = false ∧ ((want ops ρ o = true ∧ (OpPure P ρ o (ρ d) ∨ (i ∈ L ∧ OpQ P ρ o H (ρ d)))) ∨ (want ops ρ o = false ∧ ρ d = undef))

structure Lag (P : Program) (ops : Array Oper) (S : Nat) (L : List Nat) (listed : Array Bool) (ρ ρ' : Env) (H : PH) : Prop where
  size : listed.size = ops.size
  sub : ∀ i, listed.getD i false = true → S.testBit i = true
  down : ∀ a b, edge ops a b = true → listed.getD b false = true → listed.getD a false = true
  agree : ∀ x, (∀ i o, ops[i]? = some o → S.testBit i = true → listed.getD i false = false → o.dst ≠ some x) → ρ' x = ρ x
  lag : ∀ i o, ops[i]? = some o → S.testBit i = true → listed.getD i false = false → LagOp P ops ρ H L i o

def Down (ops : Array Oper) (S : Nat) : Prop := ∀ a b, edge ops a b = true → S.testBit b = true → S.testBit a = true

/-- The operations of S are planned (loads among them: L): whatever of them has been done: all goes well. -/
def GoPlan (P : Program) (rd : Option Nat) (n : Nat) (ops : Array Oper) (k : List Item) (S : Nat) (L : List Nat) (ρ : Env) (D : List Deferred) (T H : PH) (Q : Post) : Prop :=
  Down ops S → ∀ listed ρ', Lag P ops S L listed ρ ρ' H → ∀ fuel t, listed.toList.count false ≤ fuel → Go P rd n (.inRegion ops (Region.linearise.go .any ops fuel t listed []) :: k) ρ' D T H Q

theorem edge_lt {a b : Nat} (h : edge ops a b = true) : b < ops.size := by
  unfold edge at h
  cases hb : ops[b]? with
  | none => rw [hb] at h; cases h
  | some o => exact (Array.getElem?_eq_some_iff.1 hb).1

theorem getD_tf {listed : Array Bool} {i : Nat} (hi : i < listed.size) (d e : Bool) : listed.getD i d = listed.getD i e := by simp [Array.getD_eq_getD_getElem?, hi]

theorem testBit_or_two (S i j : Nat) : (S ||| 2 ^ i).testBit j = (S.testBit j || decide (i = j)) := by
  rw [Nat.testBit_or, Nat.testBit_two_pow]

/-- An operation that has been listed. -/
theorem getD_set (listed : Array Bool) (i j : Nat) (hi : i < listed.size) : (listed.setIfInBounds i true).getD j false = (decide (i = j) || listed.getD j false) := by
  by_cases h : i = j
  · subst h; simp [Array.getD_eq_getD_getElem?, hi]
  · simp [Array.getD_eq_getD_getElem?, h, Array.getElem?_setIfInBounds_ne h]

theorem mem_ready' {j : Nat} {listed : Array Bool} (hs : listed.size = ops.size) : j ∈ Region.ready .any ops listed ↔ j < ops.size ∧ listed.getD j false = false ∧ ∀ a, edge ops a j = true → listed.getD a false = true := by
  rw [mem_ready]
  constructor
  · rintro ⟨h0, o, ho, h⟩
    have hj := (Array.getElem?_eq_some_iff.1 ho).1
    refine ⟨hj, by rw [getD_tf (by omega) false true]; exact h0, fun a ha => ?_⟩
    simp only [edge, ho, List.any_eq_true] at ha
    obtain ⟨e, he, h1⟩ := ha
    simp at h1
    rw [← h1.1]; exact h e (by simpa using he) h1.2
  · rintro ⟨hj, h0, h⟩
    obtain ⟨o, ho⟩ : ∃ o, ops[j]? = some o := ⟨ops[j], by simp [hj]⟩
    refine ⟨by rw [getD_tf (by omega) true false]; exact h0, o, ho, fun e he hb => h e.on ?_⟩
    simp only [edge, ho, List.any_eq_true]
    exact ⟨e, by simpa using he, by simp [hb]⟩

theorem predsIn_iff {S j : Nat} (hj : j < ops.size) : predsIn ops S j = true ↔ ∀ a, edge ops a j = true → S.testBit a = true := by
  obtain ⟨o, ho⟩ : ∃ o, ops[j]? = some o := ⟨ops[j], by simp [hj]⟩
  simp only [predsIn, edge, ho, List.all_eq_true, List.any_eq_true]
  constructor
  · rintro h a ⟨e, he, h1⟩
    simp at h1
    have := h e he
    simp [h1.2, h1.1] at this
    exact this
  · intro h e he
    cases hb : Region.binds .any e
    · simp
    · simp; exact h e.on ⟨e, he, by simp [hb]⟩

/-- The next operation of whatever order: one that is planned, or one that is ready beside the plan. -/
theorem plan_run {S : Nat} {L : List Nat} {ρ : Env} (hD : Down ops S) (hback : backOk ops = true)
    (hdone : (∀ i, i < ops.size → S.testBit i = true) → Go P rd n k ρ D T H Q)
    (hn : ∀ i o d, ops[i]? = some o → S.testBit i = true → o.dst = some d → d < n)
    (hstep : ∀ j listed ρ' fuel t, j < ops.size → S.testBit j = false → (∀ a, edge ops a j = true → listed.getD a false = true) → (∀ a, edge ops a j = true → S.testBit a = true) → Lag P ops S L listed ρ ρ' H → listed.toList.count false ≤ fuel + 1 →
      Go P rd n (.inRegion ops (j :: Region.linearise.go .any ops fuel t (listed.setIfInBounds j true) []) :: k) ρ' D T H Q) :
    ∀ (fuel : Nat) (t : Nat) (listed : Array Bool) (ρ' : Env), Lag P ops S L listed ρ ρ' H → listed.toList.count false ≤ fuel → Go P rd n (.inRegion ops (Region.linearise.go .any ops fuel t listed []) :: k) ρ' D T H Q := by
  have fin : ∀ (listed : Array Bool) (ρ' : Env), Lag P ops S L listed ρ ρ' H → (∀ i, i < ops.size → listed.getD i false = true) → Go P rd n (.inRegion ops [] :: k) ρ' D T H Q := by
    intro listed ρ' hl hall
    have hρ : ρ' = ρ := funext fun x => hl.agree x fun i o ho hS hn => by
      have := hall i (Array.getElem?_eq_some_iff.1 ho).1
      rw [hn] at this; cases this
    rw [hρ]
    exact .step (fun b cs t w _ => step_lone_go (by simp [stepG, stepG.exec, mk])) (hdone fun i hi => hl.sub i (hall i hi))
  intro fuel
  induction fuel with
  | zero =>
    intro t listed ρ' hl hc
    have hall : ∀ i, i < ops.size → listed.getD i false = true := by
      intro i hi
      have h0 : listed.toList.count false = 0 := by omega
      rw [List.count_eq_zero] at h0
      cases hb : listed.getD i false with
      | true => rfl
      | false =>
        refine absurd ?_ h0
        have hi' : i < listed.size := by rw [hl.size]; exact hi
        have : listed[i] = false := by simpa [Array.getD_eq_getD_getElem?, hi'] using hb
        rw [← this]; simp
    simpa [Region.linearise.go] using fin listed ρ' hl hall
  | succ fuel ih =>
    intro t listed ρ' hl hc
    simp only [Region.linearise.go]
    change Go P rd n (.inRegion ops (match (Region.ready .any ops listed)[t % (Region.ready .any ops listed).length]? with
      | some i => Region.linearise.go .any ops fuel (t / (Region.ready .any ops listed).length) (listed.setIfInBounds i true) [i]
      | none => [].reverse) :: k) ρ' D T H Q
    cases hi : (Region.ready .any ops listed)[t % (Region.ready .any ops listed).length]? with
    | none =>
      have hnil : Region.ready .any ops listed = [] := by
        cases hr : Region.ready .any ops listed with
        | nil => rfl
        | cons x xs =>
          rw [hr] at hi
          have hlt : t % (x :: xs).length < (x :: xs).length := Nat.mod_lt _ (by simp)
          simp at hi hlt
          omega
      refine fin listed ρ' hl ?_
      intro i
      induction i using Nat.strongRecOn with
      | _ i ihi =>
        intro hilt
        cases hb : listed.getD i false with
        | true => rfl
        | false =>
          have : i ∈ Region.ready .any ops listed := by
            rw [mem_ready' hl.size]
            refine ⟨hilt, hb, fun a ha => ?_⟩
            have hlt : a < i := by
              simp only [backOk, List.all_eq_true, List.mem_range] at hback
              have := hback i hilt
              obtain ⟨o, ho⟩ : ∃ o, ops[i]? = some o := ⟨ops[i], by simp [hilt]⟩
              simp only [edge, ho, List.any_eq_true] at ha
              rw [ho] at this
              simp only [List.all_eq_true] at this
              obtain ⟨e, he, h1⟩ := ha
              simp at h1
              have := this e he
              simp [h1.2, h1.1] at this
              exact this
            exact ihi a hlt (by omega)
          rw [hnil] at this; cases this
    | some j =>
      simp only []
      rw [linearise_go_acc, List.reverse_singleton, List.singleton_append]
      obtain ⟨hjlt, hjn, hjp⟩ := (mem_ready' hl.size).1 (List.mem_of_getElem? hi)
      cases hjS : S.testBit j with
      | false => exact hstep j listed ρ' _ _ hjlt hjS hjp (fun a ha => hl.sub a (hjp a ha)) hl hc
      | true =>
        obtain ⟨o, ho⟩ : ∃ o, ops[j]? = some o := ⟨ops[j], by simp [hjlt]⟩
        obtain ⟨d, hd, hq, hsel, hlo⟩ := hl.lag j o ho hjS hjn
        have hjl : j < listed.size := by rw [hl.size]; exact hjlt
        -- what j looks at is as planned
        have hag : ∀ x, looks ops o x = true → ρ' x = ρ x := fun x hx => hl.agree x fun i oi hoi hiS hin hdi => by
          obtain ⟨d2, hd2, hq2, _⟩ := hl.lag i oi hoi hiS hin
          rw [hdi] at hd2; cases hd2
          simp only [quietOk, hoi, hdi, Bool.and_eq_true, List.all_eq_true, List.mem_range] at hq2
          by_cases hij : j = i
          · subst hij; rw [ho] at hoi; cases hoi; simp [hx] at hq2
          · have := hq2.2 j hjlt
            simp [hij, ho, hx] at this
            have := hjp i this
            rw [hin] at this; cases this
        -- the step, and the lag behind it
        have key : ∀ v, v = ρ d → Lag P ops S L (listed.setIfInBounds j true) ρ (upd ρ' d v) H := fun v hv => by
          refine ⟨by simp [hl.size], fun i hi => ?_, fun a b hab hb => ?_, fun x hx => ?_, fun i oi hoi hiS hin => ?_⟩
          · rw [getD_set _ _ _ hjl] at hi
            by_cases h : j = i
            · subst h; exact hjS
            · simp [h] at hi; exact hl.sub i (by simpa using hi)
          · rw [getD_set _ _ _ hjl] at hb ⊢
            by_cases h : j = b
            · subst h; simp [hjp a hab]
            · simp [h] at hb; simp [hl.down a b hab (by simpa using hb)]
          · by_cases hxd : x = d
            · subst hxd; rw [upd_same]; exact hv
            · rw [upd_other _ _ hxd]
              refine hl.agree x fun i oi hoi hiS hin hdi => ?_
              by_cases h : j = i
              · subst h; rw [ho] at hoi; cases hoi; rw [hd] at hdi; cases hdi; exact hxd rfl
              · exact hx i oi hoi hiS (by rw [getD_set _ _ _ hjl]; simp [h]; simpa using hin) hdi
          · rw [getD_set _ _ _ hjl] at hin
            by_cases h : j = i
            · simp [h] at hin
            · simp [h] at hin; exact hl.lag i oi hoi hiS (by simpa using hin)
        have hcnt : (listed.setIfInBounds j true).toList.count false ≤ fuel := by
          have hjv : listed.toList[j]'(by simpa using hjl) = false := by simpa [Array.getD_eq_getD_getElem?, hjl] using hjn
          simp only [Array.toList_setIfInBounds]
          rw [List.count_set (by simpa using hjl), hjv]
          show listed.toList.count false - 1 + 0 ≤ fuel
          omega
        intro b cs tm w hb ht hown
        have hdn := hn j o d ho hjS hd
        rcases hlo with ⟨hw, hv⟩ | ⟨hw, hv⟩
        · have hwr : Region.wanted o (yielded ops tm) = true := by rw [wanted_eq ht, want_looks hag]; exact hw
          have hOpQ : OpQ P ρ o H (ρ d) := by rcases hv with h | ⟨_, h⟩; exact h.q H; exact h
          have hdo : OpDo P ρ' o T H fun v T' H' => v = ρ d ∧ T' = T ∧ H' = H :=
            OpQ.do (v := ρ d) ⟨hOpQ.1, fun T w ho => by rw [exec_looks hsel hag]; exact hOpQ.2 T w ho⟩ ⟨rfl, rfl, rfl⟩
          obtain ⟨v, T', H', w', hs, hfr, rfl, rfl, rfl⟩ := step_op (is := Region.linearise.go .any ops fuel (t / (Region.ready .any ops listed).length) (listed.setIfInBounds j true) []) (b := b) (cs := cs) (k := k) (D := D) ho hwr ht hown hdo
          rw [hd] at hs
          obtain ⟨f, k', t', ρ2, D', T2, H2, w2, a1, a2, a3, a4, a5⟩ := ih _ _ _ (key _ rfl) hcnt b cs _ w' hb (ht.put hdn _) hfr.own
          exact ⟨f, k', t', ρ2, D', T2, H2, w2, hs.trans a1, a2, a3, hfr.trans a4, a5⟩
        · have hwr : Region.wanted o (yielded ops tm) = false := by rw [wanted_eq ht, want_looks hag]; exact hw
          have hs := step_skipped (P := P) (b := b) (cs := cs) (w := w) (k := k) (D := D) (is := Region.linearise.go .any ops fuel (t / (Region.ready .any ops listed).length) (listed.setIfInBounds j true) []) ho hwr
          rw [hd] at hs
          obtain ⟨f, k', t', ρ2, D', T2, H2, w2, a1, a2⟩ := ih _ _ _ (key _ hv.symm) hcnt b cs _ w hb (ht.put hdn _) hown
          exact ⟨f, k', t', ρ2, D', T2, H2, w2, .head hs a1, a2⟩
end
end Go.Kx

/- A REGION THAT DRAWS ITS ORDER: the rules by which it is planned. -/
import Derived.Test.YtegnpplffhkjhaaKxQ
import Derived.Test.YtegnpplffhkjhaaKxM
set_option linter.unusedVariables false
set_option linter.unusedSimpArgs false
namespace Go.Kx
section
variable {P : Program} {rd : Option Nat} {n : Nat} {k : List Item} {D : List Deferred} {T H : PH} {Q : Post} {ops : Array Oper} {S : Nat} {L : List Nat} {ρ : Env}

def dstOk (ops : Array Oper) (n : Nat) : Bool := ops.toList.all fun o => match o.dst with | some d => decide (d < n) | none => true
theorem dstOk_spec (h : dstOk ops n = true) {i : Nat} {o : Oper} {d : Nat} (ho : ops[i]? = some o) (hd : o.dst = some d) : d < n := by
  simp only [dstOk, List.all_eq_true] at h
  have := h o (by have := List.mem_of_getElem? (l := ops.toList) (i := i) (by simpa using ho); exact this)
  rw [hd] at this; simpa using this

theorem Go.draw {id : Nat} (hm : P.follows .mixedOrders = true) (h : GoPlan P rd n ops k 0 [] ρ D T H Q) : Go P rd n (.code (.region id ops true) :: k) ρ D T H Q := by
  intro b cs t w hb ht ho
  have hD : Down ops 0 := fun a b _ h => by simp at h
  have hl : Lag P ops 0 [] (Array.replicate ops.size false) ρ ρ H := by
    refine ⟨by simp, fun i hi => ?_, fun a b _ hb => ?_, fun x _ => rfl, fun i o _ hi => by simp at hi⟩
    · simp only [Array.getD_eq_getD_getElem?, Array.getElem?_replicate] at hi; split at hi <;> simp at hi
    · simp only [Array.getD_eq_getD_getElem?, Array.getElem?_replicate] at hb; split at hb <;> simp at hb
  obtain ⟨f, k', t', ρ', D', T', H', w', a1, a2, a3, a4, a5⟩ := h hD _ ρ hl ops.size (w.tape w.drawn (.order b.fn id)) (by simp [List.count_replicate]) b cs t w.drew hb ht (Fr.drew ho).own
  refine ⟨f, k', t', ρ', D', T', H', w', .head (step_lone_go ?_) a1, a2, a3, (Fr.drew ho).trans a4, a5⟩
  simp [stepG, stepG.exec, mk, choose, Sem.run, Question.forced, Question.cut, Region.schedule, hm, Region.linearise]

theorem GoPlan.done (hback : backOk ops = true) (hn : dstOk ops n = true) (hall : (List.range ops.size).all (fun i => S.testBit i) = true) (h : Go P rd n k ρ D T H Q) : GoPlan P rd n ops k S L ρ D T H Q := by
  intro hD listed ρ' hl fuel t hc
  refine plan_run hD hback (fun _ => h) (fun i o d ho _ hd => dstOk_spec hn ho hd) (fun j _ _ _ _ hj hS _ _ _ _ => ?_) fuel t listed ρ' hl hc
  simp only [List.all_eq_true, List.mem_range] at hall
  rw [hall j hj] at hS; cases hS

/-- What a planned operation will give hangs on nothing that is set beside it. -/
theorem LagOp.move {ρ2 : Env} {H2 : PH} {L2 : List Nat} {i : Nat} {o : Oper} (h : LagOp P ops ρ H L i o) (hag : ∀ x, looks ops o x = true → ρ2 x = ρ x) (hd : ∀ d, o.dst = some d → ρ2 d = ρ d)
    (hL : i ∈ L → i ∈ L2) (hre : i ∈ L → ∀ d, o.dst = some d → OpQ P ρ o H (ρ d) → OpQ P ρ2 o H2 (ρ d)) : LagOp P ops ρ2 H2 L2 i o := by
  obtain ⟨d, hd1, hq, hsel, hh⟩ := h
  refine ⟨d, hd1, hq, hsel, ?_⟩
  rw [want_looks hag, hd d hd1]
  rcases hh with ⟨hw, hv⟩ | hh
  · refine .inl ⟨hw, ?_⟩
    rcases hv with hv | ⟨hi, hv⟩
    · exact .inl ⟨hv.1, hv.2.1, fun w => by rw [exec_looks hsel hag]; exact hv.2.2 w⟩
    · exact .inr ⟨hL hi, hre hi d hd1 hv⟩
  · exact .inr hh

theorem quietOk_spec {i j : Nat} {o oj : Oper} {d : Nat} (h : quietOk ops i = true) (ho : ops[i]? = some o) (hd : o.dst = some d) (hj : ops[j]? = some oj) (hij : j ≠ i) (hl : looks ops oj d = true ∨ oj.dst = some d) : edge ops i j = true := by
  simp only [quietOk, ho, hd, Bool.and_eq_true, List.all_eq_true, List.mem_range] at h
  have := h.2 j (Array.getElem?_eq_some_iff.1 hj).1
  rcases hl with hl | hl <;> simp [hij, hj, hl] at this <;> exact this
theorem quietOk_self {i : Nat} {o : Oper} {d : Nat} (h : quietOk ops i = true) (ho : ops[i]? = some o) (hd : o.dst = some d) : looks ops o d = false := by
  simp only [quietOk, ho, hd, Bool.and_eq_true] at h
  simpa using h.1

theorem OpPure.of {o : Oper} {v : Value} (hs : isSelect o.op = false) (h : OpQ P ρ o PH.none v) : OpPure P ρ o v :=
  ⟨h.1, hs, fun w => h.2 PH.none w ⟨fun _ _ h => (by cases h), fun _ _ h => (by cases h), fun _ => .inl rfl⟩⟩

/-- A quiet operation is planned. -/
theorem GoPlan.quiet {i d : Nat} {o : Oper} {v : Value} {L2 : List Nat} (ho : ops[i]? = some o) (hd : o.dst = some d) (hS : S.testBit i = false) (hp : predsIn ops S i = true) (hq : quietOk ops i = true) (hsel : isSelect o.op = false)
    (hL : ∀ x, x ∈ L → x ∈ L2) (hv : (want ops ρ o = true ∧ (OpPure P ρ o v ∨ (i ∈ L2 ∧ OpQ P ρ o H v))) ∨ (want ops ρ o = false ∧ v = undef))
    (h : GoPlan P rd n ops k (S ||| 2 ^ i) L2 (upd ρ d v) D T H Q) : GoPlan P rd n ops k S L ρ D T H Q := by
  intro hD listed ρ' hl fuel t hc
  have hi := (Array.getElem?_eq_some_iff.1 ho).1
  have hpr := (predsIn_iff (S := S) hi).1 hp
  have hself := quietOk_self hq ho hd
  have hag : ∀ x, looks ops o x = true → upd ρ d v x = ρ x := fun x hx => upd_other _ _ (fun e => by subst e; rw [hself] at hx; cases hx)
  refine h (fun a b hab hb => ?_) listed ρ' ⟨hl.size, fun j hj => ?_, hl.down, fun x hx => ?_, fun j oj hoj hjS hjn => ?_⟩ fuel t hc
  · rw [testBit_or_two] at hb ⊢
    by_cases hib : i = b
    · subst hib; simp [hpr a hab]
    · simp [hib] at hb; simp [hD a b hab hb]
  · rw [testBit_or_two]; simp [hl.sub j hj]
  · have hxd : x ≠ d := fun e => by
      subst e
      refine hx i o ho (by rw [testBit_or_two]; simp) ?_ hd
      cases hli : listed.getD i false with
      | false => rfl
      | true => rw [hl.sub i hli] at hS; cases hS
    rw [upd_other _ _ hxd]
    exact hl.agree x fun j oj hoj hjS hjn => hx j oj hoj (by rw [testBit_or_two]; simp [hjS]) hjn
  · by_cases hij : j = i
    · subst hij
      rw [ho] at hoj; cases hoj
      refine ⟨d, hd, hq, hsel, ?_⟩
      rw [want_looks hag, upd_same]
      rcases hv with ⟨hw, hv⟩ | hv
      · refine .inl ⟨hw, ?_⟩
        rcases hv with hv | ⟨hm, hv⟩
        · exact .inl ⟨hv.1, hv.2.1, fun w => by rw [exec_looks hsel hag]; exact hv.2.2 w⟩
        · exact .inr ⟨hm, hv.1, fun T w hw => by rw [exec_looks hsel hag]; exact hv.2 T w hw⟩
      · exact .inr hv
    · rw [testBit_or_two] at hjS
      simp [Ne.symm hij] at hjS
      have hno : ¬ (looks ops oj d = true ∨ oj.dst = some d) := fun hh => by
        have := hD i j (quietOk_spec hq ho hd hoj hij hh) hjS
        rw [this] at hS; cases hS
      have hag2 : ∀ x, looks ops oj x = true → upd ρ d v x = ρ x := fun x hx => upd_other _ _ (fun e => by subst e; exact hno (.inl hx))
      refine (hl.lag j oj hoj hjS hjn).move hag2 (fun d2 hd2 => upd_other _ _ (fun e => by subst e; exact hno (.inr hd2))) (hL j) fun _ d2 hd2 hOp => ?_
      obtain ⟨_, _, _, hsj, _⟩ := hl.lag j oj hoj hjS hjn
      exact ⟨hOp.1, fun T w hw => by rw [exec_looks hsj hag2]; exact hOp.2 T w hw⟩

theorem GoPlan.pure {i d : Nat} {o : Oper} {v : Value} (ho : ops[i]? = some o) (hd : o.dst = some d) (hS : S.testBit i = false) (hp : predsIn ops S i = true) (hq : quietOk ops i = true)
    (hw : want ops ρ o = true) (hv : OpPure P ρ o v) (h : GoPlan P rd n ops k (S ||| 2 ^ i) L (upd ρ d v) D T H Q) : GoPlan P rd n ops k S L ρ D T H Q :=
  .quiet ho hd hS hp hq hv.2.1 (fun _ h => h) (.inl ⟨hw, .inl hv⟩) h
theorem GoPlan.load {i d : Nat} {o : Oper} {v : Value} (ho : ops[i]? = some o) (hd : o.dst = some d) (hS : S.testBit i = false) (hp : predsIn ops S i = true) (hq : quietOk ops i = true) (hsel : isSelect o.op = false)
    (hw : want ops ρ o = true) (hv : OpQ P ρ o H v) (h : GoPlan P rd n ops k (S ||| 2 ^ i) (i :: L) (upd ρ d v) D T H Q) : GoPlan P rd n ops k S L ρ D T H Q :=
  .quiet ho hd hS hp hq hsel (fun _ h => List.mem_cons_of_mem _ h) (.inl ⟨hw, .inr ⟨by simp, hv⟩⟩) h
theorem GoPlan.skip {i d : Nat} {o : Oper} (ho : ops[i]? = some o) (hd : o.dst = some d) (hS : S.testBit i = false) (hp : predsIn ops S i = true) (hq : quietOk ops i = true) (hsel : isSelect o.op = false)
    (hw : want ops ρ o = false) (h : GoPlan P rd n ops k (S ||| 2 ^ i) L (upd ρ d undef) D T H Q) : GoPlan P rd n ops k S L ρ D T H Q :=
  .quiet ho hd hS hp hq hsel (fun _ h => h) (.inr ⟨hw, rfl⟩) h

/-- A load that stays what it was behind operation j: it came ahead of j (then it is done: it leaves the list); or it reads the same behind it. -/
def Re (P : Program) (ops : Array Oper) (j : Nat) (ρ ρ2 : Env) (H2 : PH) : List Nat → List Nat → Prop
  | [], L2 => L2 = []
  | i :: r, L2 => ((∃ c, chain ops (i :: c) = true ∧ (i :: c).getLast? = some j) ∧ Re P ops j ρ ρ2 H2 r L2) ∨ ((∃ o d, ops[i]? = some o ∧ o.dst = some d ∧ OpQ P ρ2 o H2 (ρ d)) ∧ ∃ L3, L2 = i :: L3 ∧ Re P ops j ρ ρ2 H2 r L3)
theorem Re.spec {j : Nat} {ρ ρ2 : Env} {H2 : PH} : ∀ {L L2 : List Nat}, Re P ops j ρ ρ2 H2 L L2 → ∀ i, i ∈ L → ((∃ c, chain ops (i :: c) = true ∧ (i :: c).getLast? = some j) ∨ (i ∈ L2 ∧ ∃ o d, ops[i]? = some o ∧ o.dst = some d ∧ OpQ P ρ2 o H2 (ρ d)))
  | [], _, _, _, hi => by cases hi
  | a :: r, L2, h, i, hi => by
    rcases h with ⟨h1, h2⟩ | ⟨h1, L3, rfl, h2⟩
    · cases hi with
      | head => exact .inl h1
      | tail _ h3 => exact Re.spec h2 i h3
    · cases hi with
      | head => exact .inr ⟨by simp, h1⟩
      | tail _ h3 => exact (Re.spec h2 i h3).imp id fun ⟨a, b⟩ => ⟨List.mem_cons_of_mem _ a, b⟩
theorem chain_listed {listed : Array Bool} {j : Nat} (hdown : ∀ a b, edge ops a b = true → listed.getD b false = true → listed.getD a false = true) (hj : ∀ a, edge ops a j = true → listed.getD a false = true) :
    ∀ (c : List Nat) (i : Nat), chain ops (i :: c) = true → (i :: c).getLast? = some j → i ≠ j → listed.getD i false = true
  | [], i, _, hl, hne => by simp at hl; exact absurd hl hne
  | b :: c, i, hc, hl, hne => by
    simp only [chain, Bool.and_eq_true] at hc
    by_cases hb : b = j
    · subst hb; exact hj i hc.1
    · exact hdown i b hc.1 (chain_listed hdown hj c b hc.2 (by simpa using hl) hb)

/-- One of the operations that may come next beside the plan. -/
def PStep (P : Program) (rd : Option Nat) (n : Nat) (ops : Array Oper) (k : List Item) (S : Nat) (L : List Nat) (ρ : Env) (D : List Deferred) (T H : PH) (Q : Post) (j : Nat) : Prop :=
  ∃ o, ops[j]? = some o ∧ effOk ops j = true ∧
    ((want ops ρ o = true ∧ OpDo P ρ o T H fun v T' H' => ∃ L2, Re P ops j ρ (putD ρ o.dst v) H' L L2 ∧ GoPlan P rd n ops k (S ||| 2 ^ j) L2 (putD ρ o.dst v) D T' H' Q) ∨
     (want ops ρ o = false ∧ GoPlan P rd n ops k (S ||| 2 ^ j) L (putD ρ o.dst undef) D T H Q))
def PSteps (P : Program) (rd : Option Nat) (n : Nat) (ops : Array Oper) (k : List Item) (S : Nat) (L : List Nat) (ρ : Env) (D : List Deferred) (T H : PH) (Q : Post) : List Nat → Prop
  | [] => True
  | j :: r => PStep P rd n ops k S L ρ D T H Q j ∧ PSteps P rd n ops k S L ρ D T H Q r
theorem PSteps.spec : ∀ {R : List Nat}, PSteps P rd n ops k S L ρ D T H Q R → ∀ j, j ∈ R → PStep P rd n ops k S L ρ D T H Q j
  | [], _, _, hi => by cases hi
  | a :: r, h, i, hi => by
    cases hi with
    | head => exact h.1
    | tail _ h2 => exact PSteps.spec h.2 i h2

theorem effOk_spec {i j : Nat} {o oi : Oper} {d : Nat} (h : effOk ops j = true) (ho : ops[j]? = some o) (hd : o.dst = some d) (hi : ops[i]? = some oi) (hij : i ≠ j) (hl : looks ops oi d = true ∨ oi.dst = some d) : edge ops i j = true ∨ edge ops j i = true := by
  simp only [effOk, ho, hd, Bool.and_eq_true, List.all_eq_true, List.mem_range] at h
  have := h.2 i (Array.getElem?_eq_some_iff.1 hi).1
  rcases hl with hl | hl <;> simp [hij, hi, hl] at this <;> exact this

theorem GoPlan.step {R : List Nat} (hback : backOk ops = true) (hn : dstOk ops n = true) (hR : readyS ops S = R) (hne : R ≠ []) (h : PSteps P rd n ops k S L ρ D T H Q R) : GoPlan P rd n ops k S L ρ D T H Q := by
  intro hD listed ρ' hl fuel t hc
  refine plan_run hD hback (fun hall => ?_) (fun i o d ho _ hd => dstOk_spec hn ho hd) (fun j listed ρ' fuel t hj hjS hjp hjpS hl hc => ?_) fuel t listed ρ' hl hc
  · obtain ⟨j, hj⟩ := List.exists_mem_of_ne_nil R hne
    rw [← hR] at hj
    simp only [readyS, List.mem_filter, List.mem_range, Bool.and_eq_true] at hj
    rw [hall j hj.1] at hj
    simp at hj
  · have hjR : j ∈ R := by
      rw [← hR]; simp only [readyS, List.mem_filter, List.mem_range, Bool.and_eq_true]
      exact ⟨hj, by simp [hjS], (predsIn_iff hj).2 hjpS⟩
    obtain ⟨o, ho, heff, hcase⟩ := h.spec j hjR
    have hsel : isSelect o.op = false := by simp only [effOk, ho, Bool.and_eq_true] at heff; simpa using heff.1
    have hjl : j < listed.size := by rw [hl.size]; exact hj
    have hjn : listed.getD j false = false := by
      cases hli : listed.getD j false with
      | false => rfl
      | true => rw [hl.sub j hli] at hjS; cases hjS
    have hag : ∀ x, looks ops o x = true → ρ' x = ρ x := fun x hx => hl.agree x fun i oi hoi hiS hin hdi => by
      obtain ⟨d2, hd2, hq2, _⟩ := hl.lag i oi hoi hiS hin
      have hij : j ≠ i := fun e => by subst e; rw [hiS] at hjS; cases hjS
      have := hjp i (quietOk_spec hq2 hoi hdi ho hij (.inl hx))
      rw [hin] at this; cases this
    have hcnt : (listed.setIfInBounds j true).toList.count false ≤ fuel := by
      have hjv : listed.toList[j]'(by simpa using hjl) = false := by simpa [Array.getD_eq_getD_getElem?, hjl] using hjn
      simp only [Array.toList_setIfInBounds]
      rw [List.count_set (by simpa using hjl), hjv]
      show listed.toList.count false - 1 + 0 ≤ fuel
      omega
    have hD2 : Down ops (S ||| 2 ^ j) := fun a b hab hb => by
      rw [testBit_or_two] at hb ⊢
      by_cases hib : j = b
      · subst hib; simp [hjpS a hab]
      · simp [hib] at hb; simp [hD a b hab hb]
    have lag2 : ∀ (v : Value) (H2 : PH) (L2 : List Nat), (∀ i, i ∈ L → i ≠ j → listed.getD i false = false → i ∈ L2) → (∀ i, i ∈ L → i ≠ j → listed.getD i false = false → ∀ oi d, ops[i]? = some oi → oi.dst = some d → isSelect oi.op = false → (∀ x, looks ops oi x = true → putD ρ o.dst v x = ρ x) → OpQ P ρ oi H (ρ d) → OpQ P (putD ρ o.dst v) oi H2 (ρ d)) →
        Lag P ops (S ||| 2 ^ j) L2 (listed.setIfInBounds j true) (putD ρ o.dst v) (putD ρ' o.dst v) H2 := by
      intro v H2 L2 hsub hre
      refine ⟨by simp [hl.size], fun i hi => ?_, fun a b hab hb => ?_, fun x hx => ?_, fun i oi hoi hiS hin => ?_⟩
      · rw [getD_set _ _ _ hjl] at hi
        rw [testBit_or_two]
        by_cases hji : j = i
        · simp [hji]
        · simp [hji] at hi; simp [hl.sub i (by simpa using hi)]
      · rw [getD_set _ _ _ hjl] at hb ⊢
        by_cases hjb : j = b
        · subst hjb; simp [hjp a hab]
        · simp [hjb] at hb; simp [hl.down a b hab (by simpa using hb)]
      · have hbase : o.dst ≠ some x → ρ' x = ρ x := fun hne => hl.agree x fun i oi hoi hiS hin hdi => by
          by_cases hji : j = i
          · subst hji; rw [ho] at hoi; cases hoi; exact hne hdi
          · exact hx i oi hoi (by rw [testBit_or_two]; simp [hiS]) (by rw [getD_set _ _ _ hjl]; simp [hji]; simpa using hin) hdi
        cases hd : o.dst with
        | none => exact hbase (by rw [hd]; simp)
        | some d =>
          simp only [putD]
          by_cases hxd : x = d
          · subst hxd; rw [upd_same, upd_same]
          · rw [upd_other _ _ hxd, upd_other _ _ hxd]; exact hbase (by rw [hd]; simpa using Ne.symm hxd)
      · rw [getD_set _ _ _ hjl] at hin
        have hji : j ≠ i := fun e => by subst e; simp at hin
        simp [hji] at hin
        have hin' : listed.getD i false = false := by simpa using hin
        rw [testBit_or_two] at hiS
        simp [hji] at hiS
        have hno : ∀ d, o.dst = some d → ¬ (looks ops oi d = true ∨ oi.dst = some d) := fun d hd hh => by
          rcases effOk_spec heff ho hd hoi (Ne.symm hji) hh with he | he
          · have := hjp i he; rw [hin'] at this; cases this
          · have := hD j i he hiS; rw [this] at hjS; cases hjS
        have hagi : ∀ x, looks ops oi x = true → putD ρ o.dst v x = ρ x := fun x hx => by
          cases hd : o.dst with
          | none => rfl
          | some d => exact upd_other _ _ (fun e => by subst e; exact hno x hd (.inl hx))
        have hlo := hl.lag i oi hoi hiS hin'
        obtain ⟨_, _, _, hsi, _⟩ := hl.lag i oi hoi hiS hin'
        refine hlo.move hagi (fun d2 hd2 => ?_) (fun hiL => hsub i hiL (Ne.symm hji) hin') fun hiL d2 hd2 hOp => hre i hiL (Ne.symm hji) hin' oi d2 hoi hd2 hsi hagi hOp
        · cases hd : o.dst with
          | none => rfl
          | some d => exact upd_other _ _ (fun e => by subst e; exact hno d2 hd (.inr hd2))
    intro b cs tm w hb ht hown
    rcases hcase with ⟨hw, hdo⟩ | ⟨hw, hgo⟩
    · have hwr : Region.wanted o (yielded ops tm) = true := by rw [wanted_eq ht, want_looks hag]; exact hw
      have hdo' : OpDo P ρ' o T H _ := ⟨hdo.1, fun w ho => by rw [exec_looks hsel hag]; exact hdo.2 w ho⟩
      obtain ⟨v, T', H', w', hs, hfr, L2, hre, hgo⟩ := step_op (is := Region.linearise.go .any ops fuel t (listed.setIfInBounds j true) []) (b := b) (cs := cs) (k := k) (D := D) ho hwr ht hown hdo'
      have hlag := lag2 v H' L2 (fun i hiL hij hin => by
        rcases hre.spec i hiL with ⟨c, hc1, hc2⟩ | ⟨h1, _⟩
        · have := chain_listed hl.down hjp c i hc1 hc2 hij
          rw [hin] at this; cases this
        · exact h1) fun i hiL hij hin oi d hoi hd _ _ hOp => by
        rcases hre.spec i hiL with ⟨c, hc1, hc2⟩ | ⟨_, o2, d2, h1, h2, h3⟩
        · have := chain_listed hl.down hjp c i hc1 hc2 hij
          rw [hin] at this; cases this
        · rw [hoi] at h1; cases h1; rw [hd] at h2; cases h2; exact h3
      obtain ⟨f, k', t', ρ2, D', T2, H2, w2, a1, a2, a3, a4, a5⟩ := hgo hD2 _ _ hlag _ t hcnt b cs _ w' hb (ht.tput (fun x hx => dstOk_spec hn ho hx) v) hfr.own
      exact ⟨f, k', t', ρ2, D', T2, H2, w2, hs.trans a1, a2, a3, hfr.trans a4, a5⟩
    · have hwr : Region.wanted o (yielded ops tm) = false := by rw [wanted_eq ht, want_looks hag]; exact hw
      have hs := step_skipped (P := P) (b := b) (cs := cs) (w := w) (k := k) (D := D) (is := Region.linearise.go .any ops fuel t (listed.setIfInBounds j true) []) ho hwr
      have hlag := lag2 undef H L (fun i hiL _ _ => hiL) fun i hiL hij hin oi d hoi hd hsi hagi hOp =>
        ⟨hOp.1, fun T w hw => by rw [exec_looks (ops := ops) hsi hagi]; exact hOp.2 T w hw⟩
      obtain ⟨f, k', t', ρ2, D', T2, H2, w2, a1, a2, a3, a4, a5⟩ := hgo hD2 _ _ hlag _ t hcnt b cs _ w hb (ht.tput (fun x hx => dstOk_spec hn ho hx) undef) hown
      exact ⟨f, k', t', ρ2, D', T2, H2, w2, .head hs a1, a2, a3, a4, a5⟩

/-! ### The rules as the printed proofs use them -/
def qst (ops : Array Oper) (S i d S2 : Nat) : Bool := match ops[i]? with
  | some o => o.dst == some d && !S.testBit i && predsIn ops S i && quietOk ops i && !isSelect o.op && (S ||| 2 ^ i) == S2
  | none => false
theorem plan_pure {i d S2 : Nat} {o : Oper} {v : Value} (ho : ops[i]? = some o) (hst : qst ops S i d S2 = true) (hw : want ops ρ o = true) (hv : OpQ P ρ o PH.none v) (h : GoPlan P rd n ops k S2 L (upd ρ d v) D T H Q) : GoPlan P rd n ops k S L ρ D T H Q := by
  simp only [qst, ho, Bool.and_eq_true, Bool.not_eq_true', beq_iff_eq] at hst
  obtain ⟨⟨⟨⟨⟨h1, h2⟩, h3⟩, h4⟩, h5⟩, h6⟩ := hst
  subst h6
  exact .pure ho h1 h2 h3 h4 hw (.of h5 hv) h
theorem plan_load {i d S2 : Nat} {o : Oper} {v : Value} (ho : ops[i]? = some o) (hst : qst ops S i d S2 = true) (hw : want ops ρ o = true) (hv : OpQ P ρ o H v) (h : GoPlan P rd n ops k S2 (i :: L) (upd ρ d v) D T H Q) : GoPlan P rd n ops k S L ρ D T H Q := by
  simp only [qst, ho, Bool.and_eq_true, Bool.not_eq_true', beq_iff_eq] at hst
  obtain ⟨⟨⟨⟨⟨h1, h2⟩, h3⟩, h4⟩, h5⟩, h6⟩ := hst
  subst h6
  exact .load ho h1 h2 h3 h4 h5 hw hv h
theorem plan_skip {i d S2 : Nat} {o : Oper} (ho : ops[i]? = some o) (hst : qst ops S i d S2 = true) (hw : want ops ρ o = false) (h : GoPlan P rd n ops k S2 L (upd ρ d undef) D T H Q) : GoPlan P rd n ops k S L ρ D T H Q := by
  simp only [qst, ho, Bool.and_eq_true, Bool.not_eq_true', beq_iff_eq] at hst
  obtain ⟨⟨⟨⟨⟨h1, h2⟩, h3⟩, h4⟩, h5⟩, h6⟩ := hst
  subst h6
  exact .skip ho h1 h2 h3 h4 h5 hw h
def pst (ops : Array Oper) (n S : Nat) (R : List Nat) : Bool := backOk ops && dstOk ops n && readyS ops S == R && !R.isEmpty && R.all (effOk ops)
theorem plan_step {R : List Nat} (hst : pst ops n S R = true) (h : PSteps P rd n ops k S L ρ D T H Q R) : GoPlan P rd n ops k S L ρ D T H Q := by
  simp only [pst, Bool.and_eq_true, Bool.not_eq_true', beq_iff_eq] at hst
  obtain ⟨⟨⟨⟨h1, h2⟩, h3⟩, h4⟩, h5⟩ := hst
  exact .step h1 h2 h3 (by cases R; cases h4; simp) h
theorem plan_one {j S2 : Nat} {o : Oper} (hst : pst ops n S [j] = true) (ho : ops[j]? = some o) (hS : (S ||| 2 ^ j) = S2) (hw : want ops ρ o = true)
    (h : OpDo P ρ o T H fun v T' H' => ∃ L2, Re P ops j ρ (putD ρ o.dst v) H' L L2 ∧ GoPlan P rd n ops k S2 L2 (putD ρ o.dst v) D T' H' Q) : GoPlan P rd n ops k S L ρ D T H Q := by
  subst hS
  have he : effOk ops j = true := by simp only [pst, Bool.and_eq_true, List.all_cons] at hst; exact hst.2.1
  exact plan_step hst ⟨⟨o, ho, he, .inl ⟨hw, h⟩⟩, trivial⟩
theorem pstep_yes {j S2 : Nat} {o : Oper} (ho : ops[j]? = some o) (he : effOk ops j = true) (hS : (S ||| 2 ^ j) = S2) (hw : want ops ρ o = true)
    (h : OpDo P ρ o T H fun v T' H' => ∃ L2, Re P ops j ρ (putD ρ o.dst v) H' L L2 ∧ GoPlan P rd n ops k S2 L2 (putD ρ o.dst v) D T' H' Q) : PStep P rd n ops k S L ρ D T H Q j := by
  subst hS; exact ⟨o, ho, he, .inl ⟨hw, h⟩⟩
theorem plan_done (h1 : (backOk ops && dstOk ops n && (List.range ops.size).all fun i => S.testBit i) = true) (h : Go P rd n k ρ D T H Q) : GoPlan P rd n ops k S L ρ D T H Q := by
  simp only [Bool.and_eq_true] at h1
  exact .done h1.1.1 h1.1.2 h1.2 h
/-- The ways meet again where S2 is planned. -/
theorem join_plan {σ : Type} (S2 : Nat) (L2 : List Nat) (E : Env → σ → Prop) {kk : σ → PH → Prop} {body : (σ → PH → Prop) → Prop} (h : mJoin kk body)
    (h1 : ∀ s H ρ, kk s H → E ρ s → GoPlan P rd n ops k S2 L2 ρ D T H Q)
    (h2 : ∀ j : σ → PH → Prop, (∀ s H ρ, j s H → E ρ s → GoPlan P rd n ops k S2 L2 ρ D T H Q) → body j → GoPlan P rd n ops k S L ρ D T H Q) : GoPlan P rd n ops k S L ρ D T H Q := h2 kk h1 h
theorem plan_L {L2 : List Nat} (hL : ∀ x, x ∈ L2 → x ∈ L) (h : GoPlan P rd n ops k S L ρ D T H Q) (hq : True) : True := trivial

/-! ### A block that was made ahead of its turn stands among the tokens till then -/
theorem own_commit {b : Nat} {o : Obj} {w : World} (hT : T b = none) (h : Own H (T.upd b o) w) : H b = none ∧ Own (H.upd b o) T w := by
  have hb : H b = none := (h.dis b).resolve_right (by simp)
  refine ⟨hb, fun c x hc => ?_, fun c x hc => ?_, fun c => ?_⟩
  · by_cases e : c = b
    · subst e; simp at hc; subst hc; exact h.tok c _ (by simp)
    · rw [PH.upd_other _ _ e] at hc; exact h.sub c x hc
  · have e : c ≠ b := fun e => by subst e; rw [hT] at hc; cases hc
    exact h.tok c x (by rw [PH.upd_other _ _ e]; exact hc)
  · by_cases e : c = b
    · subst e; exact .inr hT
    · rw [PH.upd_other _ _ e]
      rcases h.dis c with h1 | h1
      · exact .inl h1
      · rw [PH.upd_other _ _ e] at h1; exact .inr h1
theorem fr_commit {b : Nat} {o : Obj} {w w' : World} {H' T' : PH} (h : Fr (H.upd b o) T w H' T' w') : Fr H (T.upd b o) w H' T' w' :=
  ⟨h.own, h.size, fun c hc h1 h2 => by
    have e : c ≠ b := fun e => by subst e; simp at h2
    exact h.keep c hc (by rw [PH.upd_other _ _ e]; exact h1) (by rwa [PH.upd_other _ _ e] at h2), h.os, h.output, h.tape⟩
theorem go_commit {b : Nat} {o : Obj} (hT : T b = none) (h : H b = none → Go P rd n k ρ D T (H.upd b o) Q) : Go P rd n k ρ D (T.upd b o) H Q := by
  intro bb cs t w hb ht ho
  obtain ⟨hbn, ho2⟩ := own_commit hT ho
  obtain ⟨f, k', t', ρ', D', T', H', w', a1, a2, a3, a4, a5⟩ := h hbn bb cs t w hb ht ho2
  exact ⟨f, k', t', ρ', D', T', H', w', a1, a2, a3, fr_commit a4, a5⟩
theorem PH.upd_comm (H : PH) {a b : Nat} (x y : Obj) (h : a ≠ b) : (H.upd a x).upd b y = (H.upd b y).upd a x := by
  funext c
  by_cases h1 : c = a
  · subst h1; rw [PH.upd_other _ _ h]; simp
  · by_cases h2 : c = b
    · subst h2; rw [PH.upd_other _ _ h1]; simp
    · rw [PH.upd_other _ _ h2, PH.upd_other _ _ h1, PH.upd_other _ _ h1, PH.upd_other _ _ h2]
theorem upd_none {a b : Nat} {o : Obj} (h : T.upd a o b = none) : b ≠ a ∧ T b = none := by
  have e : b ≠ a := fun e => by subst e; simp at h
  exact ⟨e, by rwa [PH.upd_other _ _ e] at h⟩
/-- What the planned loads read does not hang on a block that was made beside them. -/
theorem plan_commit {b : Nat} {o : Obj} (hT : T b = none) (h : H b = none → GoPlan P rd n ops k S L ρ D T (H.upd b o) Q) : GoPlan P rd n ops k S L ρ D (T.upd b o) H Q := by
  intro hD listed ρ' hl fuel t hc
  refine go_commit hT fun hb => h hb hD listed ρ' ⟨hl.size, hl.sub, hl.down, hl.agree, fun i oi hoi hiS hin => ?_⟩ fuel t hc
  have := hl.lag i oi hoi hiS hin
  refine this.move (fun _ _ => rfl) (fun _ _ => rfl) (fun h => h) fun _ d hd hOp => ⟨hOp.1, fun T2 w hw => ?_⟩
  exact hOp.2 PH.none w ⟨fun c x hc => hw.sub c x (by
    have e : c ≠ b := fun e => by subst e; rw [hb] at hc; cases hc
    rw [PH.upd_other _ _ e]; exact hc), fun _ _ h => (by cases h), fun _ => .inr rfl⟩
theorem plan_commit2 {b b2 : Nat} {o o2 : Obj} (hne : b ≠ b2) (hT : T b = none) (h : H b = none → GoPlan P rd n ops k S L ρ D (T.upd b2 o2) (H.upd b o) Q) : GoPlan P rd n ops k S L ρ D ((T.upd b o).upd b2 o2) H Q := by
  rw [PH.upd_comm _ _ _ hne]
  exact plan_commit (by rw [PH.upd_other _ _ hne]; exact hT) h

theorem cell_new {b : Nat} {o : Obj} {a : Addr} {v : Value} (hb : H b = none) (h : cellAt H a = some v) : cellAt (H.upd b o) a = some v := by
  unfold cellAt at h ⊢
  split at h
  · rename_i c e f hc
    rw [PH.upd_other _ _ (fun e => by rw [e, hb] at hc; cases hc), hc]; exact h
  · cases h
theorem cells_new {b m : Nat} {o : Obj} {a : Addr} {cs : List Value} (hb : H b = none) (h : cellsAt H a m = some cs) : cellsAt (H.upd b o) a m = some cs := by
  unfold cellsAt at h ⊢
  split at h
  · rename_i h0; rw [if_pos h0]; exact h
  · rename_i h0
    rw [if_neg h0]
    split at h
    · rename_i c e f hc
      rw [PH.upd_other _ _ (fun e => by rw [e, hb] at hc; cases hc), hc]; exact h
    · cases h
section
variable {d : Option Nat} {ty : TypeId} {p : String} {af : Array Edge} {g : Option (Nat × Bool)} {K : Value → PH → PH → Prop}
theorem do_newT {e : TypeId} {z : Value} {cs : List Value} (hz : ZeroOf P e z) (hc : z.cells = cs.toArray)
    (h : ∀ b a, H b = none → T b = none → a = ⟨b, 0, none⟩ → K (.pointer (some a)) (T.upd b (row cs e)) H) : OpDo P ρ ⟨d, .alloc e, ty, p, af, g⟩ T H K := ⟨rfl, fun w ho => .inl
  ⟨_, _, H, _, by simp [execOp, Instr.alloc, Sem.run_bind, run_zero hz, Result.andThen, newVar, run_newRow, Sem.run_pure, hc], .allocTok ho _, h _ _ ho.new.1 ho.new.2 rfl⟩⟩
theorem do_newBoxT {e : TypeId} {x : Operand} {v : Value} {cs : List Value} (hx : ev ρ x = v) (hc : v.cells = cs.toArray)
    (h : ∀ b a, H b = none → T b = none → a = ⟨b, 0, none⟩ → K (.pointer (some a)) (T.upd b (row cs e)) H) : OpDo P ρ ⟨d, .box e x, ty, p, af, g⟩ T H K := ⟨rfl, fun w ho => .inl
  ⟨_, _, H, _, by simp [execOp, hx, Instr.box, Sem.run_bind, Result.andThen, newVar, run_newRow, Sem.run_pure, hc], .allocTok ho _, h _ _ ho.new.1 ho.new.2 rfl⟩⟩
theorem do_call2 {xs : Array Operand} {ats : Array TypeId} {f : FuncId} {vs : List Value} {R : Value → PH → Prop} (hf : Body P f) (hc : CallsH P f vs.toArray H R) (hx : xs.toList.map (ev ρ) = vs)
    (h : ∀ v H', R v H' → K v T H') : OpDo P ρ ⟨d, .call ⟨.value (.func f), xs, ats⟩, ty, p, af, g⟩ T H K := do_call hf hx hc h
theorem do_mkT {t e size m : Nat} {x y : Operand} {z : Value} {zs : List Value} {nn c : Int} {k1 k2 : IntKind} (hs : SliceOf P t e size) (hm : BytesOf P e m) (hm1 : 1 ≤ m) (hz : ZeroOf P e z) (hzs : z.cells = zs.toArray) (hsz : zs.length = size) (hsz1 : 1 ≤ size)
    (hx : ev ρ x = .int k1 nn) (hy : ev ρ y = .int k2 c) (hok : MkOk m nn c)
    (h : ∀ b r, H b = none → T b = none → r = ⟨some ⟨b, 0, none⟩, nn.toNat, c.toNat⟩ → K (Sl.v r) (T.upd b (row (zeros c.toNat zs) e)) H) : OpDo P ρ ⟨d, .makeSlice t x y, ty, p, af, g⟩ T H K := ⟨rfl, fun w ho => by
  have hr := run_makeSlice (P := P) (w := w) (k1 := k1) (k2 := k2) (n := nn.toNat) (c := c.toNat) hs hm hm1 hz hzs hsz hsz1 (by have := hok.1; have := hok.2.1; omega) (mkb hok.1 hok.2.1 hok.2.2)
  refine .inl ⟨_, _, H, _, ?_, .allocTok ho _, h _ _ ho.new.1 ho.new.2 rfl⟩
  simp only [execOp, intn hx hok.1, intn hy (Int.le_trans hok.1 hok.2.1), Sem.run_bind, hr, Result.andThen, Sem.run_pure]⟩
theorem do_bsT {t e size len : Nat} {parts : Array (Nat × Operand)} {ps : List (Nat × Value)} {z : Value} {zs cs : List Value} (hs : SliceOf P t e size) (hz : ZeroOf P e z) (hzs : z.cells = zs.toArray) (hsz : zs.length = size) (h0 : len * size ≠ 0) (h24 : len * size ≤ 2 ^ 24)
    (hps : parts.toList.map (fun q => (q.1, ev ρ q.2)) = ps) (hf : Instr.fill (fun i => some (i * size, size)) (zeros len zs).toArray ps = some cs.toArray)
    (h : ∀ b r, H b = none → T b = none → r = ⟨some ⟨b, 0, none⟩, len, len⟩ → K (Sl.v r) (T.upd b (row cs e)) H) : OpDo P ρ ⟨d, .buildSlice t len parts, ty, p, af, g⟩ T H K := ⟨rfl, fun w ho => by
  have hown : Own PH.none PH.none w := ⟨fun _ _ h => (by cases h), fun _ _ h => (by cases h), fun _ => .inl rfl⟩
  have := (do_buildSlice (P := P) (ρ := ρ) (T := PH.none) (H := PH.none) (d := d) (ty := ty) (p := p) (af := af) (g := g) (K := fun v _ _ => True) hs hz hzs hsz h0 h24 hps hf (fun _ _ _ => trivial))
  subst hsz
  refine .inl ⟨_, _, H, _, ?_, .allocTok ho _, h _ _ ho.new.1 ho.new.2 rfl⟩
  have h24' : ¬ len * zs.length > 2 ^ 24 := by omega
  have hps' : (parts.map fun q => (q.1, ev ρ q.2)).toList = ps := by rw [← hps]; simp
  have hr := range_zeros len zs
  simp only [execOp, Instr.buildSlice, Sem.run_bind, run_under hs.1, Result.andThen, run_size hs.2, h24', if_false, h0, run_zero hz, Sem.run_pure, hzs]
  simp only [hps', List.size_toArray, hr, hf, Sem.run_bind, run_newRow, Result.andThen, Sem.run_pure]⟩
end
end
end Go.Kx

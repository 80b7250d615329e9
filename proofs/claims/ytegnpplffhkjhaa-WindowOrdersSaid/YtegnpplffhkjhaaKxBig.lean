/- BIG ARRAYS: values whose cells are an open list; pointers to arrays and slices. -/
import Derived.Test.YtegnpplffhkjhaaKxEq
set_option linter.unusedVariables false
set_option linter.unusedSimpArgs false
namespace Go.Kx
section
variable {P : Program} {ρ : Env} {T H : PH} {d : Option Nat} {ty : TypeId} {p : String} {af : Array Edge} {g : Option (Nat × Bool)} {K : Value → PH → PH → Prop}

def catl : List (List Value) → List Value
  | [] => []
  | [c] => c
  | c :: r => c ++ catl r
theorem catl_cons (c : List Value) (r : List (List Value)) : catl (c :: r) = c ++ catl r := by cases r <;> simp [catl]
/-- The parts lie one behind the other. -/
def Cat (place : Nat → Option (Nat × Nat)) (tot : Nat) : List (Nat × Value) → List (List Value) → Nat → Prop
  | [], css, off => css = [] ∧ off = tot
  | q :: ps, css, off => ∃ cs r n, css = cs :: r ∧ cs.length = n ∧ place q.1 = some (off, n) ∧ q.2.cells = cs.toArray ∧ Cat place tot ps r (off + n)
theorem Cat.cons {place : Nat → Option (Nat × Nat)} {tot off n i : Nat} {v : Value} {ps : List (Nat × Value)} {cs : List Value} {css : List (List Value)} (hn : cs.length = n) (hp : place i = some (off, n)) (hv : v.cells = cs.toArray) (h : Cat place tot ps css (off + n)) :
    Cat place tot ((i, v) :: ps) (cs :: css) off := ⟨cs, css, n, rfl, hn, hp, hv, h⟩
theorem Cat.nil {place : Nat → Option (Nat × Nat)} {tot off : Nat} (h : off = tot) : Cat place tot [] [] off := ⟨rfl, h⟩
theorem Cat.len {place : Nat → Option (Nat × Nat)} {tot : Nat} : ∀ {ps : List (Nat × Value)} {css : List (List Value)} {off : Nat}, Cat place tot ps css off → off + (catl css).length = tot
  | [], _, off, ⟨h1, h2⟩ => by subst h1; simpa [catl] using h2
  | q :: ps, _, off, ⟨cs, r, n, h1, h2, _, _, h⟩ => by
    subst h1
    have := Cat.len h
    rw [catl_cons, List.length_append]; omega
theorem fold_at (vs : List Value) : ∀ (pre : List Value) (post : List Value) (k off : Nat), pre.length = off + k → vs.length ≤ post.length → ((vs.zipIdx k).foldl (fun cs q => cs.setIfInBounds (off + q.2) q.1) (pre ++ post).toArray) = (pre ++ vs ++ post.drop vs.length).toArray := by
  induction vs with
  | nil => intro pre post k off _ _; simp
  | cons v vs ih =>
    intro pre post k off hp hl
    cases post with
    | nil => simp at hl
    | cons x post =>
      simp only [List.zipIdx_cons, List.foldl_cons]
      have e : (pre ++ x :: post).toArray.setIfInBounds (off + k) v = ((pre ++ [v]) ++ post).toArray := by
        rw [← hp]; simp
      rw [e, ih (pre ++ [v]) post (k + 1) off (by simp; omega) (by simpa using hl)]
      simp
theorem fill_cat {place : Nat → Option (Nat × Nat)} {tot : Nat} : ∀ (ps : List (Nat × Value)) (css : List (List Value)) (done rest : List Value), Cat place tot ps css done.length → done.length + rest.length = tot →
    Instr.fill place (done ++ rest).toArray ps = some (done ++ catl css).toArray
  | [], _, done, rest, ⟨h1, h2⟩, hl => by
    subst h1
    have : rest = [] := List.length_eq_zero_iff.1 (by omega)
    subst this; simp [Instr.fill, catl]
  | (i, v) :: ps, _, done, rest, ⟨cs, r, n, h1, h2, h3, h4, h⟩, hl => by
    subst h1
    have hlen := Cat.len h
    simp only [Instr.fill, h3]
    have hs : v.cells.size = n := by rw [h4]; simpa using h2
    have h5 : ¬ (done.length + n > (done ++ rest).toArray.size) := by simp; omega
    simp only [hs, ne_eq, not_true_eq_false, decide_false, Bool.false_or, h5, Bool.false_eq_true, if_false]
    have hf : (v.cells.zipIdx.foldl (fun cs (x : Value × Nat) => cs.setIfInBounds (done.length + x.2) x.1) (done ++ rest).toArray) = ((done ++ cs) ++ rest.drop cs.length).toArray := by
      rw [h4]
      have := fold_at cs done rest 0 done.length (by simp) (by omega)
      apply Array.ext'
      simpa using congrArg Array.toList this
    have hg := fill_cat ps r (done ++ cs) (rest.drop cs.length) (by rw [List.length_append, h2]; exact h) (by simp; omega)
    rw [catl_cons, ← List.append_assoc, ← hg]
    first
      | rw [hf]
      | (split
         · rename_i hh; exact absurd hh (by simp; omega)
         · rw [hf])
theorem q_buildCat {t : Nat} {parts : Array (Nat × Operand)} {pl : List (Nat × Nat)} {ps : List (Nat × Value)} {css : List (List Value)} {z : Value} {zs : List Value} (hp : PlacesOf P t pl) (hz : ZeroOf P t z) (hzs : z.cells = zs.toArray)
    (hps : parts.toList.map (fun q => (q.1, ev ρ q.2)) = ps) (hc : Cat (fun i => pl.toArray[i]?) zs.length ps css 0) : OpQ P ρ ⟨d, .build t parts, ty, p, af, g⟩ H (.agg (catl css).toArray) :=
  q_build hp hz hzs hps (by simpa using fill_cat ps css [] zs hc (by simp))
theorem q_buildACat {t len e size : Nat} {parts : Array (Nat × Operand)} {ps : List (Nat × Value)} {css : List (List Value)} {z : Value} {zs : List Value} (hs : ArrayOf P t len e size) (hz : ZeroOf P t z) (hzs : z.cells = zs.toArray)
    (hps : parts.toList.map (fun q => (q.1, ev ρ q.2)) = ps) (hc : Cat (fun i => some (i * size, size)) zs.length ps css 0) : OpQ P ρ ⟨d, .build t parts, ty, p, af, g⟩ H (.agg (catl css).toArray) :=
  q_buildA hs hz hzs hps (by simpa using fill_cat ps css [] zs hc (by simp))
theorem fillS_cat {place : Nat → Option (Nat × Nat)} {tot : Nat} {ps : List (Nat × Value)} {css : List (List Value)} {zs : List Value} (hc : Cat place tot ps css 0) (hl : zs.length = tot) : Instr.fill place zs.toArray ps = some (catl css).toArray := by
  simpa using fill_cat ps css [] zs hc (by simpa using hl)

theorem do_bs0 {t e size : Nat} (hs : SliceOf P t e size) (h : ∀ r H', NewS H (row [] e) 0 0 r H' → K (Sl.v r) T H') : OpDo P ρ ⟨d, .buildSlice t 0 #[], ty, p, af, g⟩ T H K := ⟨rfl, fun w ho => by
  refine .inl ⟨_, T, _, _, ?_, .alloc ho _, h _ _ ⟨_, ho.new.1, rfl, rfl⟩⟩
  simp [execOp, Instr.buildSlice, Sem.run_bind, run_under hs.1, Result.andThen, run_size hs.2, Sem.run_pure, Instr.fill, run_newRow]
  have e0 : ∀ f : Nat → Value, (Array.range 0).map f = #[] := fun f => by apply Array.ext'; simp [Array.toList_range]
  rw [e0]⟩

/-! ### Slices and pointers to arrays -/
def mArr (x : Sl) (n : Nat) (K : Addr → Prop) : Prop := n ≤ x.len ∧ ∃ a, x.a = some a ∧ K a
theorem q_arr {t n e size : Nat} {x : Operand} {s : Sl} {a : Addr} (hs : ArrayOf P t n e size) (hl : n ≤ s.len) (ha : s.a = some a) (hx : ev ρ x = Sl.v s) : OpQ P ρ ⟨d, .sliceToArrayPointer t x, ty, p, af, g⟩ H (.pointer (some a)) := ⟨rfl, fun T w ho => by
  have hl' : ¬ s.len < n := by omega
  simp [execOp, hx, Instr.arrayAt, Sem.run_bind, run_under hs.1, Result.andThen, Sl.v, hl', ha, Sem.run_pure]⟩
def CutA (n : Nat) (a : Addr) (size : Nat) (lo hi : Int) (r : Sl) : Prop := 0 ≤ lo ∧ lo ≤ hi ∧ hi ≤ n ∧ r = ⟨some (if n = lo.toNat then a else a.add (lo.toNat * size)), hi.toNat - lo.toNat, n - lo.toNat⟩
def mCutA (n : Nat) (a : Addr) (size : Nat) (lo hi : Int) (K : Sl → Prop) : Prop := ∃ r, CutA n a size lo hi r ∧ K r
theorem q_cutA {t n e size : Nat} {x : Operand} {a : Addr} {r : Sl} {lo hi : Option Operand} {l h : Int} (hs : ArrayOf P t n e size) (hc : CutA n a size l h r) (hx : ev ρ x = .pointer (some a))
    (hlo : (match lo with | none => l = 0 | some o => ∃ k, ev ρ o = .int k l)) (hhi : (match hi with | none => h = (n : Int) | some o => ∃ k, ev ρ o = .int k h)) :
    OpQ P ρ ⟨d, .slice t x lo hi none, ty, p, af, g⟩ H (Sl.v r) := ⟨rfl, fun T w ho => by
  obtain ⟨h1, h2, h3, rfl⟩ := hc
  have r1 : (Instr.sliceBounds false n n (lo.map (ev ρ)) (hi.map (ev ρ)) none).run P w = .ok (l.toNat, h.toNat, n) w := by
    have e2 : h.toNat ≤ n := by omega
    cases lo with
    | none =>
      simp only at hlo; subst hlo
      cases hi with
      | none => simp only at hhi; subst hhi; simp [Instr.sliceBounds, Sem.run_bind, Sem.run_pure, Result.andThen]
      | some o => obtain ⟨k, hk⟩ := hhi; simp [Instr.sliceBounds, Sem.run_bind, Sem.run_pure, Result.andThen, hk, Instr.sliceBound, asIntOf, h2, h3]
    | some q =>
      obtain ⟨k, hk⟩ := hlo
      cases hi with
      | none => simp only at hhi; subst hhi; simp [Instr.sliceBounds, Sem.run_bind, Sem.run_pure, Result.andThen, hk, Instr.sliceBound, asIntOf, h1, h2]
      | some o =>
        obtain ⟨k2, hk2⟩ := hhi
        have h0 : 0 ≤ h := by omega
        have e3 : l ≤ (h.toNat : Int) := by omega
        have e4 : l ≤ max h 0 := by omega
        simp [Instr.sliceBounds, Sem.run_bind, Sem.run_pure, Result.andThen, hk, hk2, Instr.sliceBound, asIntOf, h0, h1, h3, e3, e4]
  simp [execOp, hx, Instr.sliceAt, Instr.sureAddr, Sem.run_bind, run_under hs.1, Result.andThen, r1, run_size hs.2, Sem.run_pure]⟩
end
end Go.Kx

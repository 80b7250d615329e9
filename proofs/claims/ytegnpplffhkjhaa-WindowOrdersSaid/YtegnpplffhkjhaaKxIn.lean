/- ARGUMENTS: slices whose elements have more cells than one. -/
import Derived.Test.YtegnpplffhkjhaaKxW
import Derived.Test.YtegnpplffhkjhaaKxS
import Derived.ChangeArms
set_option linter.unusedVariables false
set_option linter.unusedSimpArgs false
namespace Go.Kx
open Go.ChangeShapes Go.WideShapes Go.ChangeAt Go.RowKit

section
variable {α : Type} {enc : α → List Value} {sz : Nat}
/-- s reads l, element by element. -/
def ListN (enc : α → List Value) (sz : Nat) (H : PH) (s : Sl) (l : List α) : Prop :=
  s.len = l.length ∧ s.len ≤ s.cap ∧ ∀ (i : Nat) (x : α), l[i]? = some x → ∃ a, s.a = some a ∧ a.spot = none ∧ cellsAt H (a.add (i * sz)) sz = some (enc x)
theorem Ext.cells {A B : PH} (h : Ext A B) {a : Addr} {n : Nat} {cs : List Value} (hc : cellsAt A a n = some cs) : cellsAt B a n = some cs := by
  unfold cellsAt at hc ⊢
  split at hc
  · rename_i h0; rw [if_pos h0]; exact hc
  · rename_i h0
    rw [if_neg h0]
    split at hc
    · rename_i c e f hb; rw [h _ _ hb]; exact hc
    · cases hc
theorem ListN.ext {A B : PH} {s : Sl} {l : List α} (h : ListN enc sz A s l) (x : Ext A B) : ListN enc sz B s l :=
  ⟨h.1, h.2.1, fun i y hi => let ⟨a, ha, hs, hc⟩ := h.2.2 i y hi; ⟨a, ha, hs, x.cells hc⟩⟩
theorem ListN.lenI {H : PH} {s : Sl} {l : List α} (h : ListN enc sz H s l) : (s.len : Int) = l.length := by rw [h.1]
theorem idxL {H : PH} {s : Sl} {l : List α} {i : Int} {K : Addr → Prop} (h : ListN enc sz H s l) (h0 : 0 ≤ i) (h1 : i < l.length) (hK : ∀ a x, l[i.toNat]? = some x → cellsAt H a sz = some (enc x) → K a) : mIdx s sz i K := by
  have hlt : i.toNat < l.length := by omega
  obtain ⟨a, ha, hs, hc⟩ := h.2.2 i.toNat l[i.toNat] (by simp [hlt])
  exact ⟨_, ⟨a, ha, h0, by rw [h.1]; omega, rfl⟩, hK _ _ (by simp [hlt]) hc⟩
theorem cells_at {H : PH} {a : Addr} {n : Nat} {cs : List Value} (h : cellsAt H a n = some cs) {j : Nat} {v : Value} (hj : cs[j]? = some v) : cellAt H (a.add j) = some v := by
  obtain ⟨h1, h2⟩ := cellsAt_cell h
  have hlt := (List.getElem?_eq_some_iff.1 hj).1
  obtain ⟨v', e1, e2⟩ := h2 j (by omega)
  rw [hj] at e1; cases e1; exact e2
end

theorem cells_heapOf {W : World} {a : Addr} {n : Nat} {cs : List Value} (h : W.cells? 0 a n = some cs) (hs : a.spot = none) : cellsAt (heapOf W) a n = some cs := by
  obtain ⟨_, hl, hc⟩ := World.cells?_some h
  unfold cellsAt
  by_cases h0 : n = 0
  · rw [if_pos h0]
    have : cs = [] := List.length_eq_zero_iff.1 (by omega)
    rw [this]
  · rw [if_neg h0]
    have hv : ∀ i, i < n → W.cell? (a.add i) = some (cs[i]?.getD undef) := fun i hi => by
      rw [hc i hi]; simp [show i < cs.length by omega]
    have h00 := hv 0 (by omega)
    rw [add_zero'] at h00
    have hb := h00
    unfold World.cell? at hb
    cases hw : W.heap[a.block]? with
    | none => rw [hw] at hb; cases hb
    | some o =>
      cases o with
      | cells c e f =>
        have hci : ∀ i, i < n → c[a.off + i]? = cs[i]? := fun i hi => by
          have := hc i hi
          unfold World.cell? at this
          rw [add_block, hw] at this
          simp only [add_spot _ _ hs, add_off] at this
          simpa using this
        have hle : a.off + n ≤ c.size := by
          have h1 := hci (n - 1) (by omega)
          rw [List.getElem?_eq_getElem (by omega : n - 1 < cs.length)] at h1
          have := (Array.getElem?_eq_some_iff.1 h1).1
          omega
        show (match W.heap[a.block]? with | some (.cells c _ _) => _ | _ => none) = _
        rw [hw]
        simp only [hs, Option.isSome_none, Bool.false_eq_true, if_false, hle, if_true, Option.some.injEq]
        apply List.ext_getElem?
        intro i
        rw [List.getElem?_take]
        by_cases hi : i < n
        · rw [if_pos hi, List.getElem?_drop, Array.getElem?_toList, hci i hi]
        · rw [if_neg hi, List.getElem?_eq_none (by omega)]
      | _ => rw [hw] at hb; cases hb

section
variable {H : Type} {enc : TypeId × Value → H} {P : Program}
theorem in_sliceN {α : Type} {enc' : α → List Value} {sz : Nat} {R : α → Prop} {t e fuel : Nat} {W : World} {cs : List Value} {d : DataW H} {ps : List MemPlace} (hu : P.underlying t = some (.slice e)) (hc : P.cellsOf e = sz) (hsz : 0 < sz)
    (hel : ∀ n cs x, DataW.trod enc P W 0 (fun _ => true) true n e cs = some x → ∃ a, cs = enc' a ∧ R a)
    (h : DataW.trod enc P W 0 (fun _ => true) true fuel t cs = some (d, ps)) : ∃ s l, cs = [Sl.v s] ∧ ListN enc' sz (heapOf W) s l ∧ ∀ a, a ∈ l → R a := by
  rcases Go.Deep.open_slice hu h with ⟨h1, h2⟩ | ⟨a, len, cap, m, n, D, Pl, h1, _, hle, hcm, hm, hx, hel2⟩
  · exact ⟨Sl.nil, [], h1, ⟨rfl, Nat.le_refl _, fun i x hi => by simp at hi⟩, by simp⟩
  · simp only [if_true] at hm; subst hm
    rw [hc] at hel2
    obtain ⟨l, hl, hp⟩ := list_of (p := fun i (a' : α) => W.cells? 0 (a.add (i * sz)) sz = some (enc' a') ∧ R a') len fun i hi => by
      obtain ⟨cs', c1, c2⟩ := hel2 i (by omega)
      obtain ⟨a', rfl, r⟩ := hel n cs' _ c2
      exact ⟨a', c1, r⟩
    have hsp : 0 < len → a.spot = none := fun h0 => by
      obtain ⟨cs', c1, _⟩ := hel2 0 (by omega)
      obtain ⟨_, hl', hc'⟩ := World.cells?_some c1
      have := hc' 0 hsz
      rw [Nat.zero_mul, add_zero', add_zero', List.getElem?_eq_getElem (by omega : 0 < cs'.length)] at this
      exact cell_spot this
    refine ⟨⟨some a, len, m⟩, l, h1, ⟨hl.symm, hle, fun i x hi => ?_⟩, fun x hx' => ?_⟩
    · have hlt := (List.getElem?_eq_some_iff.1 hi).1
      exact ⟨a, rfl, hsp (by omega), cells_heapOf (hp i x hi).1 (add_spot _ _ (hsp (by omega)))⟩
    · obtain ⟨i, hi, rfl⟩ := List.getElem_of_mem hx'
      exact (hp i _ (by simp [hi])).2
theorem get_of_drop {cs : List Value} {i : Nat} {v : Value} (h : (cs.drop i).take 1 = [v]) : cs[i]? = some v := by
  have := congrArg (·[0]?) h
  simpa [List.getElem?_take, List.getElem?_drop] using this
/-- The i-th part of a struct that is read. -/
theorem trod_field {W : World} {t fuel : Nat} {fs : Array Field} {cs : List Value} {x : DataW H × List MemPlace} (ht : P.underlying t = some (.struct fs)) (h : DataW.trod enc P W 0 (fun _ => true) true fuel t cs = some x) :
    cs.length = P.cellsOf t ∧ ∀ (i : Nat) (f : Field), fs[i]? = some f → ∃ n y, DataW.trod enc P W 0 (fun _ => true) true n f.type ((cs.drop f.offset).take (P.cellsOf f.type)) = some y := by
  obtain ⟨xs, n, _, _, hl, hlen, hf⟩ := DataW.trod_struct ht h
  refine ⟨hl, fun i f hi => ?_⟩
  have hlt := (Array.getElem?_eq_some_iff.1 hi).1
  exact ⟨n, xs[i]'(by omega), by rw [hf i f hi]; simp⟩
theorem trod_item {W : World} {t fuel len e : Nat} {cs : List Value} {x : DataW H × List MemPlace} (ht : P.underlying t = some (.array len e)) (h : DataW.trod enc P W 0 (fun _ => true) true fuel t cs = some x) :
    cs.length = P.cellsOf t ∧ ∀ i, i < len → ∃ n y, DataW.trod enc P W 0 (fun _ => true) true n e ((cs.drop (i * P.cellsOf e)).take (P.cellsOf e)) = some y := by
  cases fuel with
  | zero => simp [DataW.trod] at h
  | succ n =>
    unfold DataW.trod at h
    rw [ht] at h
    split at h <;> simp_all
    obtain ⟨hl, xs, hp, hd⟩ := h
    intro i hi
    have h1 := mapM_some_length hp
    have h2 := mapM_some_get hp i i (by simp [hi])
    simp at h1
    have hlt : i < xs.length := by omega
    refine ⟨n, xs[i].1, xs[i].2, ?_⟩
    rw [h2]; simp [hlt]
theorem f_int {W : World} {t n i : Nat} {k : IntKind} {cs : List Value} {y : DataW H × List MemPlace} (hu : P.underlying t = some (.int k)) (hc : P.cellsOf t = 1) (h : DataW.trod enc P W 0 (fun _ => true) true n t ((cs.drop i).take (P.cellsOf t)) = some y) : ∃ a, cs[i]? = some (.int k a) ∧ (Lit.int k a).wf = true := by
  rw [hc] at h
  obtain ⟨a, h1, _, h3⟩ := DataW.trod_int hu h
  exact ⟨a, get_of_drop h1, h3⟩
theorem f_bool {W : World} {t n i : Nat} {cs : List Value} {y : DataW H × List MemPlace} (hu : P.underlying t = some .bool) (hc : P.cellsOf t = 1) (h : DataW.trod enc P W 0 (fun _ => true) true n t ((cs.drop i).take (P.cellsOf t)) = some y) : ∃ a, cs[i]? = some (.bool a) := by
  rw [hc] at h
  obtain ⟨a, h1, _⟩ := DataW.trod_bool hu h
  exact ⟨a, get_of_drop h1⟩
theorem f_ints {W : World} {t e n i : Nat} {k : IntKind} {cs : List Value} {y : DataW H × List MemPlace} (hu : P.underlying t = some (.slice e)) (hct : P.cellsOf t = 1) (hc : P.cellsOf e = 1) (he : P.underlying e = some (.int k))
    (h : DataW.trod enc P W 0 (fun _ => true) true n t ((cs.drop i).take (P.cellsOf t)) = some y) : ∃ q : Sl × List Int, cs[i]? = some (Sl.v q.1) ∧ ListAt (Value.int k) (heapOf W) q.1 q.2 ∧ ∀ x, x ∈ q.2 → (Lit.int k x).wf = true := by
  rw [hct] at h
  obtain ⟨d, ps⟩ := y
  obtain ⟨s, l, h1, h2⟩ := in_ints hu hc he h
  exact ⟨(s, l), get_of_drop h1, h2.1, ints_wf h2⟩
end
end Go.Kx

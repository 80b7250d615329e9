/- OPERATIONS THAT TURN OR MAKE MEMORY. -/
import Derived.Test.YtegnpplffhkjhaaKxD
set_option linter.unusedVariables false
set_option linter.unusedSimpArgs false
namespace Go.Kx
section
variable {P : Program} {ρ : Env} {T H : PH} {d : Option Nat} {ty : TypeId} {p : String} {af : Array Edge} {g : Option (Nat × Bool)} {K : Value → PH → PH → Prop}

def cellV : Value → Bool
  | .agg _ => false
  | .tuple _ => false
  | _ => true

/-! ### New blocks -/
theorem run_newRow {w : World} (e : TypeId) (c : Array Value) : (newRow e c).run P w = .ok ⟨w.heap.size, 0, none⟩ (w.alloc (.cells c e)) := by
  simp [newRow, newObj, Sem.run_bind, Sem.run, Result.andThen, Sem.run_pure]

/-- A row of cells of one type, nothing of it frozen. -/
abbrev row (cs : List Value) (e : TypeId) : Obj := .cells cs.toArray e

def ZeroOf (P : Program) (t : TypeId) (z : Value) : Prop := (P.info? t).bind (·.zero) = some z
theorem run_zero {t : TypeId} {z : Value} {w : World} (h : ZeroOf P t z) : (zeroValue t).run P w = .ok z w := by
  unfold ZeroOf at h
  cases hi : P.info? t with
  | none => rw [hi] at h; cases h
  | some i => rw [hi] at h; simp at h; simp [zeroValue, Sem.run_bind, run_info hi, Result.andThen, h, Sem.run_pure]

theorem do_alloc {e : TypeId} {z : Value} {cs : List Value} (hz : ZeroOf P e z) (hc : z.cells = cs.toArray)
    (h : ∀ b, H b = none → T b = none → K (.pointer (some ⟨b, 0, none⟩)) T (H.upd b (row cs e))) : OpDo P ρ ⟨d, .alloc e, ty, p, af, g⟩ T H K := ⟨rfl, fun w ho => .inl
  ⟨_, T, _, _, by simp [execOp, Instr.alloc, Sem.run_bind, run_zero hz, Result.andThen, newVar, run_newRow, Sem.run_pure, hc], .alloc ho _, h _ ho.new.1 ho.new.2⟩⟩
theorem do_box {e : TypeId} {x : Operand} {v : Value} {cs : List Value} (hx : ev ρ x = v) (hc : v.cells = cs.toArray)
    (h : ∀ b, H b = none → T b = none → K (.pointer (some ⟨b, 0, none⟩)) T (H.upd b (row cs e))) : OpDo P ρ ⟨d, .box e x, ty, p, af, g⟩ T H K := ⟨rfl, fun w ho => .inl
  ⟨_, T, _, _, by simp [execOp, hx, Instr.box, Sem.run_bind, Result.andThen, newVar, run_newRow, Sem.run_pure, hc], .alloc ho _, h _ ho.new.1 ho.new.2⟩⟩

/-! ### Stores -/
theorem run_store {w : World} (ho : Own H T w) {b off : Nat} {c : Array Value} {e : TypeId} {v : Value} (hb : H b = some (.cells c e)) (ho1 : off < c.size) (hv : cellV v = true) :
    (store ⟨b, off, none⟩ v).run P w = .ok () (w.setCell ⟨b, off, none⟩ v) := by
  have hw := ho.sub b _ hb
  have hcell : w.cell? ⟨b, off, none⟩ = some c[off] := by simp [World.cell?, hw, ho1]
  have hfr : w.frozen? ⟨b, off, none⟩ = false := by simp [World.frozen?, hw]
  unfold store
  cases v <;> first | (cases hv; done) | simp [Sem.run, hcell, hfr]
theorem fr_setCell {w : World} (ho : Own H T w) {b off : Nat} {c : Array Value} {e : TypeId} {v : Value} (hb : H b = some (.cells c e)) :
    Fr H T w (H.upd b (.cells (c.setIfInBounds off v) e)) T (w.setCell ⟨b, off, none⟩ v) := by
  refine .put ho hb ?_ rfl rfl rfl
  have hw := ho.sub b _ hb
  have hlt := ho.lt hb
  simp only [World.setCell]
  have hw' : w.heap[b] = .cells c e := by have := Array.getElem?_eq_getElem hlt; rw [hw] at this; exact (Option.some.inj this).symm
  apply Array.ext'
  apply List.ext_getElem?
  intro i
  simp only [Array.getElem?_toList]
  rw [Array.getElem?_modify, Array.getElem?_setIfInBounds]
  by_cases hi : b = i
  · subst hi; simp [hlt, hw']
  · simp [hi]

/-- cs with the cells from off on become vs. -/
def putAt (cs : List Value) (off : Nat) : List Value → List Value
  | [] => cs
  | v :: vs => putAt (cs.set off v) (off + 1) vs
theorem putAt_length (vs : List Value) : ∀ (cs : List Value) (off : Nat), (putAt cs off vs).length = cs.length := by
  induction vs with
  | nil => intro cs off; rfl
  | cons v vs ih => intro cs off; simp [putAt, ih]
theorem putAt_eq (vs : List Value) : ∀ (cs : List Value) (off : Nat), off + vs.length ≤ cs.length → putAt cs off vs = cs.take off ++ vs ++ cs.drop (off + vs.length) := by
  induction vs with
  | nil => intro cs off h; simp [putAt]
  | cons v vs ih =>
    intro cs off h
    simp only [List.length_cons] at h
    rw [putAt, ih _ _ (by simp; omega)]
    have h1 : (cs.set off v).take (off + 1) = cs.take off ++ [v] := by
      apply List.ext_getElem?
      intro i
      rw [List.getElem?_take]
      by_cases hi : i < off + 1
      · rw [if_pos hi, List.getElem?_set]
        by_cases hio : off = i
        · subst hio; rw [if_pos rfl, if_pos (by omega), List.getElem?_append_right (by simp; omega)]; simp [Nat.min_eq_left (by omega : off ≤ cs.length)]
        · rw [if_neg hio, List.getElem?_append_left (by simp; omega), List.getElem?_take, if_pos (by omega)]
      · rw [if_neg hi, List.getElem?_eq_none (by simp; omega)]
    have h2 : (cs.set off v).drop (off + 1 + vs.length) = cs.drop (off + 1 + vs.length) := by
      rw [List.drop_set, if_pos (by omega)]
    rw [h1, h2, show off + 1 + vs.length = off + (vs.length + 1) by omega]
    simp

theorem storeCells_run (vs : List Value) : ∀ {H : PH} {w : World} (ho : Own H T w) {b off i : Nat} {cs : List Value} {e : TypeId} (hb : H b = some (row cs e)) (hle : off + i + vs.length ≤ cs.length) (hv : vs.all cellV = true),
    ∃ w', (storeCells ⟨b, off, none⟩ vs i).run P w = .ok () w' ∧ Fr H T w (H.upd b (row (putAt cs (off + i) vs) e)) T w' := by
  induction vs with
  | nil =>
    intro H w ho b off i cs e hb hle hv
    refine ⟨w, by simp [storeCells, Sem.run_pure], (Fr.refl ho).weaken (fun x o hx => ?_) (fun _ _ h => h)⟩
    by_cases hxb : x = b
    · subst hxb; simp [putAt] at hx; subst hx; exact hb
    · rwa [PH.upd_other _ _ hxb] at hx
  | cons v vs ih =>
    intro H w ho b off i cs e hb hle hv
    simp only [List.all_cons, Bool.and_eq_true, List.length_cons] at hv hle
    have h1 := run_store (P := P) ho (off := off + i) (v := v) hb (by simp; omega) hv.1
    have h2 := fr_setCell ho (off := off + i) (v := v) hb
    have e1 : (cs.toArray.setIfInBounds (off + i) v) = (cs.set (off + i) v).toArray := by simp
    rw [e1] at h2
    obtain ⟨w', h3, h4⟩ := ih h2.own (b := b) (off := off) (i := i + 1) (cs := cs.set (off + i) v) (e := e) (by simp) (by simp; omega) hv.2
    refine ⟨w', ?_, (h2.trans h4).weaken (fun x o hx => ?_) (fun _ _ h => h)⟩
    · simp only [storeCells, Sem.run_bind, add_mk, h1, Result.andThen, h3]
    · by_cases hxb : x = b
      · subst hxb; simp at hx ⊢; rw [← hx, putAt, Nat.add_assoc]
      · rw [PH.upd_other _ _ hxb] at hx; rw [PH.upd_other _ _ hxb, PH.upd_other _ _ hxb]; exact hx

theorem do_store {t n : Nat} {x y : Operand} {b off : Nat} {v : Value} {cs vs : List Value} {e : TypeId} (hsz : (P.info? t).map (·.size) = some n) (hx : ev ρ x = .pointer (some ⟨b, off, none⟩)) (hy : ev ρ y = v)
    (hvs : v.cells = vs.toArray) (hn : vs.length = n) (hcv : vs.all cellV = true) (hb : H b = some (row cs e)) (hle : off + vs.length ≤ cs.length)
    (h : K undef T (H.upd b (row (putAt cs off vs) e))) : OpDo P ρ ⟨d, .store t x y, ty, p, af, g⟩ T H K := ⟨rfl, fun w ho => by
  obtain ⟨w', h1, h2⟩ := storeCells_run (P := P) vs ho (off := off) (i := 0) hb (by omega) hcv
  refine .inr (.inl ⟨T, _, w', ?_, h2, by simpa using h⟩)
  simp [execOp, hx, hy, Instr.storeAt, Instr.sureAddr, storeVar, Sem.run_bind, Sem.run_pure, Result.andThen, run_size hsz, hvs, hn, h1]⟩

/-! ### Slices -/
theorem q_slice {t e size : Nat} {x : Operand} {a : Option Addr} {len cap : Nat} {lo hi : Option Operand} {l h : Nat} (hs : SliceOf P t e size) (hx : ev ρ x = .slice a len cap)
    (hlo : (match lo with | none => l = 0 | some o => ∃ k, ev ρ o = .int k (l : Int))) (hhi : (match hi with | none => h = len | some o => ∃ k, ev ρ o = .int k (h : Int))) (h1 : l ≤ h) (h2 : h ≤ cap) (h3 : len ≤ cap) :
    OpQ P ρ ⟨d, .slice t x lo hi none, ty, p, af, g⟩ H (.slice (if cap = l then a else a.map (·.add (l * size))) (h - l) (cap - l)) := ⟨rfl, fun T w ho => by
  have r1 : (Instr.sliceBounds true len cap (lo.map (ev ρ)) (hi.map (ev ρ)) none).run P w = .ok (l, h, cap) w := by
    cases lo with
    | none =>
      simp only at hlo; subst hlo
      cases hi with
      | none => simp only at hhi; subst hhi; simp [Instr.sliceBounds, Sem.run_bind, Sem.run_pure, Result.andThen]
      | some o => obtain ⟨k, hk⟩ := hhi; simp [Instr.sliceBounds, Sem.run_bind, Sem.run_pure, Result.andThen, hk, Instr.sliceBound, asIntOf, h2]
    | some q =>
      obtain ⟨k, hk⟩ := hlo
      cases hi with
      | none => simp only at hhi; subst hhi; simp [Instr.sliceBounds, Sem.run_bind, Sem.run_pure, Result.andThen, hk, Instr.sliceBound, asIntOf, h1]
      | some o => obtain ⟨k2, hk2⟩ := hhi; simp [Instr.sliceBounds, Sem.run_bind, Sem.run_pure, Result.andThen, hk, hk2, Instr.sliceBound, asIntOf, h1, h2]
  simp [execOp, hx, Instr.sliceAt, Sem.run_bind, run_under hs.1, Result.andThen, Instr.slice, r1, run_size hs.2, Sem.run_pure]⟩
theorem q_makeFunc {f : Fn} {fi ca : Array Operand} {vs us : List Value} (h1 : fi.toList.map (ev ρ) = vs) (h2 : ca.toList.map (ev ρ) = us) : OpQ P ρ ⟨d, .makeFunc f fi ca, ty, p, af, g⟩ H (.func f vs.toArray us.toArray) := ⟨rfl, fun T w ho => by
  simp [execOp, map_ev h1, map_ev h2, Instr.makeFunc, Sem.run_pure, Sem.run_bind, Result.andThen]⟩

def zeros (n : Nat) (z : List Value) : List Value := (List.range (n * z.length)).map fun i => z[i % z.length]!
theorem range_zeros (n : Nat) (z : List Value) : (Array.range (n * z.length)).map (fun i => z.toArray[i % z.length]!) = (zeros n z).toArray := by
  apply Array.ext'; simp [zeros]
theorem zeros_one (n : Nat) (z : Value) : zeros n [z] = List.replicate n z := by
  apply List.ext_getElem
  · simp [zeros]
  · intro i h1 h2; simp [zeros, Nat.mod_one]
theorem zeros_length (n : Nat) (z : List Value) : (zeros n z).length = n * z.length := by simp [zeros]

theorem run_askRoom {w : World} (m : Nat) : (askRoom m).run P w = .ok () w := by
  unfold askRoom; split <;> simp [mark, Sem.run, Sem.run_pure]

def BytesOf (P : Program) (t m : Nat) : Prop := (P.info? t).map (·.bytes) = some m
theorem run_typeBytes {t m : Nat} {w : World} (h : BytesOf P t m) : ∃ i, (typeInfo t).run P w = .ok i w ∧ i.bytes = m := by
  unfold BytesOf at h
  cases hi : P.info? t with
  | none => rw [hi] at h; cases h
  | some i => rw [hi] at h; cases h; exact ⟨i, run_info hi, rfl⟩
theorem wrap64_id {x : Int} (h1 : -9223372036854775808 ≤ x) (h2 : x < 9223372036854775808) : IntKind.i64.wrap x = x := by
  have hb : (2 : Int) ^ IntKind.i64.bits = 18446744073709551616 := rfl
  have hc : (2 : Int) ^ (IntKind.i64.bits - 1) = 9223372036854775808 := rfl
  simp only [IntKind.wrap, hb, hc, IntKind.signed, Bool.true_and, decide_eq_true_eq]
  split <;> omega
theorem wrap_small {n : Nat} (h : n ≤ 2 ^ 48) : IntKind.i64.wrap (n : Int) = n := wrap64_id (by omega) (by omega)

theorem run_makeSlice {t e size m : Nat} {z : Value} {zs : List Value} {n c : Nat} {w : World} {k1 k2 : IntKind} (hs : SliceOf P t e size) (hm : BytesOf P e m) (hm1 : 1 ≤ m) (hz : ZeroOf P e z) (hzs : z.cells = zs.toArray) (hsz : zs.length = size) (hsz1 : 1 ≤ size)
    (h1 : n ≤ c) (h2 : m * c ≤ 2 ^ 48) : (Instr.makeSlice t (.int k1 n) (.int k2 c)).run P w = .ok (.slice (some ⟨w.heap.size, 0, none⟩) n c) (w.alloc (row (zeros c zs) e)) := by
  obtain ⟨i, hi, hib⟩ := run_typeBytes (w := w) hm
  have hc : c ≤ 2 ^ 48 := by
    have : 1 * c ≤ m * c := Nat.mul_le_mul_right c hm1
    omega
  have hn : n ≤ 2 ^ 48 := by omega
  have e1 := wrap_small hc
  have e2 := wrap_small hn
  have t1 : (decide ((c : Int) < 0) || decide ((m : Int) * (c : Int) > 2 ^ 48)) = false := by
    have : (m : Int) * (c : Int) ≤ 2 ^ 48 := by exact_mod_cast h2
    simp; omega
  have hcond : ¬ (((decide ((c : Int) < 0) || decide ((m : Int) * (c : Int) > 2 ^ 48)) = true ∨ (n : Int) < 0) ∨ (n : Int) > (c : Int)) := by
    rw [t1]; simp; omega
  subst hsz
  have hz2 : (if c * zs.length = 0 then (pure #[] : Sem (Array Value)) else do pure (← zeroValue e).cells).run P w = .ok (if c * zs.length = 0 then #[] else zs.toArray) w := by
    split
    · simp [Sem.run_pure]
    · simp [Sem.run_bind, run_zero hz, Result.andThen, Sem.run_pure, hzs]
  simp only [Instr.makeSlice, Sem.run_bind, run_under hs.1, Result.andThen, asInt, asIntOf, Sem.run_pure, hi, hib, e1, e2]
  simp only [Bool.or_eq_true, decide_eq_true_eq] at hcond
  simp only [Bool.or_eq_true, decide_eq_true_eq, hcond, if_false, Int.toNat_natCast, Sem.run_bind, run_askRoom, Result.andThen, run_size hs.2, hz2]
  by_cases h0 : c * zs.length = 0
  · have : c = 0 := by rcases Nat.mul_eq_zero.1 h0 with h | h <;> omega
    subst this
    simp [run_newRow, Sem.run_pure, Result.andThen, zeros]
    have : (Array.range 0).map (fun _ => (default : Value)) = #[] := by apply Array.ext'; simp
    rw [this]
  · simp only [h0, if_false, Sem.run_bind, run_zero hz, run_newRow, Sem.run_pure, Result.andThen, hzs]
    rw [show (Array.range (c * zs.length)).map (fun x => zs.toArray[x % zs.toArray.size]!) = (zeros c zs).toArray by simpa using range_zeros c zs]
theorem do_makeSlice {t e size m : Nat} {x y : Operand} {z : Value} {zs : List Value} {n c : Nat} {k1 k2 : IntKind} (hs : SliceOf P t e size) (hm : BytesOf P e m) (hm1 : 1 ≤ m) (hz : ZeroOf P e z) (hzs : z.cells = zs.toArray) (hsz : zs.length = size) (hsz1 : 1 ≤ size)
    (hx : ev ρ x = .int k1 n) (hy : ev ρ y = .int k2 c) (h1 : n ≤ c) (h2 : m * c ≤ 2 ^ 48)
    (h : ∀ b, H b = none → T b = none → K (.slice (some ⟨b, 0, none⟩) n c) T (H.upd b (row (zeros c zs) e))) : OpDo P ρ ⟨d, .makeSlice t x y, ty, p, af, g⟩ T H K := ⟨rfl, fun w ho => .inl
  ⟨_, T, _, _, by simp [execOp, hx, hy, Sem.run_bind, run_makeSlice hs hm hm1 hz hzs hsz hsz1 h1 h2, Result.andThen, Sem.run_pure], .alloc ho _, h _ ho.new.1 ho.new.2⟩⟩

theorem do_buildSlice {t e size len : Nat} {parts : Array (Nat × Operand)} {ps : List (Nat × Value)} {z : Value} {zs cs : List Value} (hs : SliceOf P t e size) (hz : ZeroOf P e z) (hzs : z.cells = zs.toArray) (hsz : zs.length = size) (h0 : len * size ≠ 0) (h24 : len * size ≤ 2 ^ 24)
    (hps : parts.toList.map (fun q => (q.1, ev ρ q.2)) = ps) (hf : Instr.fill (fun i => some (i * size, size)) (zeros len zs).toArray ps = some cs.toArray)
    (h : ∀ b, H b = none → T b = none → K (.slice (some ⟨b, 0, none⟩) len len) T (H.upd b (row cs e))) : OpDo P ρ ⟨d, .buildSlice t len parts, ty, p, af, g⟩ T H K := ⟨rfl, fun w ho => by
  refine .inl ⟨_, T, _, _, ?_, .alloc ho _, h _ ho.new.1 ho.new.2⟩
  subst hsz
  have h24' : ¬ len * zs.length > 2 ^ 24 := by omega
  have hps' : (parts.map fun q => (q.1, ev ρ q.2)).toList = ps := by rw [← hps]; simp
  have hr := range_zeros len zs
  simp only [execOp, Instr.buildSlice, Sem.run_bind, run_under hs.1, Result.andThen, run_size hs.2, h24', if_false, h0, run_zero hz, Sem.run_pure, hzs]
  simp only [hps', List.size_toArray, hr, hf, Sem.run_bind, run_newRow, Result.andThen, Sem.run_pure]⟩

/-! ### Calls -/
theorem do_call {xs : Array Operand} {ats : Array TypeId} {f : FuncId} {vs : List Value} {R : Value → PH → Prop} (hf : Body P f) (hx : xs.toList.map (ev ρ) = vs) (hc : CallsH P f vs.toArray H R)
    (h : ∀ v H', R v H' → K v T H') : OpDo P ρ ⟨d, .call ⟨.value (.func f), xs, ats⟩, ty, p, af, g⟩ T H K := ⟨rfl, fun w ho => by
  refine .inr (.inr (.inl ⟨f, vs.toArray, ?_, ?_⟩))
  · simp [execOp, resolve, ev, map_ev hx, Deferred.ofValue, Sem.run_bind, Sem.run_pure, Result.andThen, invoke, hf _ _]
  · exact (hc.beside w ho).mono fun e w' ⟨v, T', H', h1, h2, h3, h4⟩ => ⟨v, T', H', h1, h2, h3 ▸ h v H' h4⟩⟩
/-- A call of a function value. -/
theorem do_callV {x : Operand} {xs : Array Operand} {ats : Array TypeId} {f : FuncId} {fi ca : List Value} {vs : List Value} {R : Value → PH → Prop} (hf : Body P f) (hx0 : ev ρ x = .func (.func f) fi.toArray ca.toArray) (hx : xs.toList.map (ev ρ) = vs) (hc : CallsH P f (fi ++ vs ++ ca).toArray H R)
    (h : ∀ v H', R v H' → K v T H') : OpDo P ρ ⟨d, .call ⟨.value x, xs, ats⟩, ty, p, af, g⟩ T H K := ⟨rfl, fun w ho => by
  refine .inr (.inr (.inl ⟨f, (fi ++ vs ++ ca).toArray, ?_, ?_⟩))
  · simp [execOp, resolve, hx0, map_ev hx, Deferred.ofValue, Sem.run_bind, Sem.run_pure, Result.andThen, invoke, hf _ _]
  · exact (hc.beside w ho).mono fun e w' ⟨v, T', H', h1, h2, h3, h4⟩ => ⟨v, T', H', h1, h2, h3 ▸ h v H' h4⟩⟩
end
end Go.Kx

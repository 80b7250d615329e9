/- HELPERS THAT THE PRINTED PROOFS NAME; the built-ins append, copy, clear. -/
import Derived.Test.YtegnpplffhkjhaaKxM
set_option linter.unusedVariables false
set_option linter.unusedSimpArgs false
namespace Go.Kx
theorem bor (c : Bool) : c = true ∨ c = false := by cases c <;> simp
theorem btT {v : Value} {b : Bool} (h : v = .bool b) (hb : b = true) : v = .bool true := by rw [h, hb]
theorem btF {v : Value} {b : Bool} (h : v = .bool b) (hb : b = false) : v = .bool false := by rw [h, hb]
theorem sla {v : Value} {s : Sl} {a : Addr} (h : v = Sl.v s) (ha : s.a = some a) : v = .slice (some a) s.len s.cap := by rw [h]; simp [Sl.v, ha]
theorem pta {v : Value} {a a' : Addr} (h : v = .pointer (some a)) (ha : a = a') : v = .pointer (some a') := by rw [h, ha]
theorem ptn {v : Value} {p : Option Addr} {a : Addr} (h : v = .pointer p) (ha : p = some a) : v = .pointer (some a) := by rw [h, ha]
theorem intn {v : Value} {k : IntKind} {x : Int} (h : v = .int k x) (h0 : 0 ≤ x) : v = .int k ((x.toNat : Nat) : Int) := by rw [h, Int.toNat_of_nonneg h0]
theorem mkb {m : Nat} {n c : Int} (h0 : 0 ≤ n) (h1 : n ≤ c) (h2 : (m : Int) * c ≤ 2 ^ 48) : m * c.toNat ≤ 2 ^ 48 := by
  have hc : ((c.toNat : Nat) : Int) = c := Int.toNat_of_nonneg (by omega)
  have : ((m * c.toNat : Nat) : Int) ≤ 2 ^ 48 := by rw [Int.natCast_mul, hc]; exact h2
  exact_mod_cast this
theorem lsm1 {α : Type} {i : Nat} {a a' : α} (h : a = a') : [(i, a)] = [(i, a')] := by rw [h]
theorem lsm2 {α : Type} {i j : Nat} {a a' b b' : α} (h : a = a') (h2 : b = b') : [(i, a), (j, b)] = [(i, a'), (j, b')] := by rw [h, h2]
theorem lsm3 {α : Type} {i j k : Nat} {a a' b b' c c' : α} (h : a = a') (h2 : b = b') (h3 : c = c') : [(i, a), (j, b), (k, c)] = [(i, a'), (j, b'), (k, c')] := by rw [h, h2, h3]
theorem lsm4 {α : Type} {i j k l : Nat} {a a' b b' c c' d d' : α} (h : a = a') (h2 : b = b') (h3 : c = c') (h4 : d = d') : [(i, a), (j, b), (k, c), (l, d)] = [(i, a'), (j, b'), (k, c'), (l, d')] := by rw [h, h2, h3, h4]

def icom (k : IntKind) (a : Int) : Int := ixor k (if k.signed then -1 else k.max) a
def mLen (cs : List Value) (n : Nat) (K : Prop) : Prop := cs.length = n ∧ K
def mStA (H : PH) (a : Addr) (n : Nat) (vs : List Value) (K : PH → Prop) : Prop := vs.length = n ∧ mSt H a vs K

section
variable {P : Program} {ρ : Env} {T H : PH} {d : Option Nat} {ty : TypeId} {p : String} {af : Array Edge} {g : Option (Nat × Bool)} {K : Value → PH → PH → Prop}

theorem q_idx {t e size : Nat} {x ix : Operand} {s : Sl} {ik : IntKind} {i : Int} {a : Addr} (hs : SliceOf P t e size) (hi : IdxS s size i a) (hx : ev ρ x = Sl.v s) (hix : ev ρ ix = .int ik i) : OpQ P ρ ⟨d, .indexAddr t x ix, ty, p, af, g⟩ H (.pointer (some a)) := by
  obtain ⟨a0, h1, h2, h3, rfl⟩ := hi
  exact q_indexAddr hs h2 h3 (sla hx h1) hix
theorem q_idxA {t n e size : Nat} {x ix : Operand} {a0 a : Addr} {ik : IntKind} {i : Int} (hs : ArrayOf P t n e size) (hi : IdxA n a0 size i a) (hx : ev ρ x = .pointer (some a0)) (hix : ev ρ ix = .int ik i) : OpQ P ρ ⟨d, .indexAddr t x ix, ty, p, af, g⟩ H (.pointer (some a)) := by
  obtain ⟨h2, h3, rfl⟩ := hi
  exact q_indexAddrA hs h2 h3 hx hix
theorem q_cut {t e size : Nat} {x : Operand} {s r : Sl} {lo hi : Option Operand} {l h : Int} (hs : SliceOf P t e size) (hc : CutS s size l h r) (hx : ev ρ x = Sl.v s)
    (hlo : (match lo with | none => l = 0 | some o => ∃ k, ev ρ o = .int k l)) (hhi : (match hi with | none => h = (s.len : Int) | some o => ∃ k, ev ρ o = .int k h)) :
    OpQ P ρ ⟨d, .slice t x lo hi none, ty, p, af, g⟩ H (Sl.v r) := by
  obtain ⟨h1, h2, h3, h4, rfl⟩ := hc
  refine q_slice (l := l.toNat) (h := h.toNat) hs hx ?_ ?_ (by omega) (by omega) h4
  · cases lo with
    | none => simp only at hlo ⊢; omega
    | some o => obtain ⟨k, hk⟩ := hlo; exact ⟨k, intn hk h1⟩
  · cases hi with
    | none => simp only at hhi ⊢; omega
    | some o => obtain ⟨k, hk⟩ := hhi; exact ⟨k, intn hk (by omega)⟩
theorem do_new {e : TypeId} {z : Value} {cs : List Value} (hz : ZeroOf P e z) (hc : z.cells = cs.toArray)
    (h : ∀ a H', NewA H (row cs e) a H' → K (.pointer (some a)) T H') : OpDo P ρ ⟨d, .alloc e, ty, p, af, g⟩ T H K := do_alloc hz hc fun b hb _ => h _ _ ⟨b, hb, rfl, rfl⟩
theorem do_newBox {e : TypeId} {x : Operand} {v : Value} {cs : List Value} (hx : ev ρ x = v) (hc : v.cells = cs.toArray)
    (h : ∀ a H', NewA H (row cs e) a H' → K (.pointer (some a)) T H') : OpDo P ρ ⟨d, .box e x, ty, p, af, g⟩ T H K := do_box hx hc fun b hb _ => h _ _ ⟨b, hb, rfl, rfl⟩
theorem do_mk {t e size m : Nat} {x y : Operand} {z : Value} {zs : List Value} {n c : Int} {k1 k2 : IntKind} (hs : SliceOf P t e size) (hm : BytesOf P e m) (hm1 : 1 ≤ m) (hz : ZeroOf P e z) (hzs : z.cells = zs.toArray) (hsz : zs.length = size) (hsz1 : 1 ≤ size)
    (hx : ev ρ x = .int k1 n) (hy : ev ρ y = .int k2 c) (hok : MkOk m n c)
    (h : ∀ r H', NewS H (row (zeros c.toNat zs) e) n.toNat c.toNat r H' → K (Sl.v r) T H') : OpDo P ρ ⟨d, .makeSlice t x y, ty, p, af, g⟩ T H K :=
  do_makeSlice hs hm hm1 hz hzs hsz hsz1 (intn hx hok.1) (intn hy (Int.le_trans hok.1 hok.2.1)) (by have := hok.1; have := hok.2.1; omega) (mkb hok.1 hok.2.1 hok.2.2) fun b hb _ => h _ _ ⟨b, hb, rfl, rfl⟩
theorem do_bs {t e size len : Nat} {parts : Array (Nat × Operand)} {ps : List (Nat × Value)} {z : Value} {zs cs : List Value} (hs : SliceOf P t e size) (hz : ZeroOf P e z) (hzs : z.cells = zs.toArray) (hsz : zs.length = size) (h0 : len * size ≠ 0) (h24 : len * size ≤ 2 ^ 24)
    (hps : parts.toList.map (fun q => (q.1, ev ρ q.2)) = ps) (hf : Instr.fill (fun i => some (i * size, size)) (zeros len zs).toArray ps = some cs.toArray)
    (h : ∀ r H', NewS H (row cs e) len len r H' → K (Sl.v r) T H') : OpDo P ρ ⟨d, .buildSlice t len parts, ty, p, af, g⟩ T H K :=
  do_buildSlice hs hz hzs hsz h0 h24 hps hf fun b hb _ => h _ _ ⟨b, hb, rfl, rfl⟩
/-- '[]byte(x)' of what is a slice of bytes already: the cell behind its row is marked. -/
def mMark (H : PH) (s : Sl) (K : PH → Prop) : Prop := ∃ b off cs e, s.a = some ⟨b, off, none⟩ ∧ H b = some (row cs e) ∧ K (H.upd b (.cells cs.toArray e (cs.length, cs.length + 1)))
theorem do_mark {t e : TypeId} {x : Operand} {s : Sl} {KK : PH → Prop} (h1 : P.underlying t = some (.slice e)) (h2 : P.underlying e = some (.int .u8)) (hx : ev ρ x = Sl.v s) (h : mMark H s KK) (hk : ∀ H', KK H' → K (Sl.v s) T H') :
    OpDo P ρ ⟨d, .convert t t x, ty, p, af, g⟩ T H K := ⟨rfl, fun w ho => by
  obtain ⟨b, off, cs, e', ha, hb, h⟩ := h
  have hw := ho.sub b _ hb
  have hlt := ho.lt hb
  have hw' : w.heap[b] = .cells cs.toArray e' := by have := Array.getElem?_eq_getElem hlt; rw [hw] at this; exact (Option.some.inj this).symm
  refine .inl ⟨_, T, _, w.freeze ⟨b, cs.length, none⟩ 1, ?_, .put ho hb (o' := .cells cs.toArray e' (cs.length, cs.length + 1)) ?_ rfl rfl rfl, hk _ h⟩
  · simp [execOp, hx, Sl.v, ha, convert, Sem.run_bind, run_under h1, run_under h2, Result.andThen, markStringish, shape, freeze, Sem.run, World.shape?, hw, Sem.run_pure]
  · simp only [World.freeze]
    apply Array.ext'
    apply List.ext_getElem?
    intro i
    simp only [Array.getElem?_toList, Nat.one_ne_zero, if_false]
    rw [Array.getElem?_modify, Array.getElem?_setIfInBounds]
    by_cases hi : b = i
    · subst hi; simp [hlt, hw']
    · simp [hi]⟩

/-! ### Composite values -/
def PlacesOf (P : Program) (t : Nat) (pl : List (Nat × Nat)) : Prop :=
  ∃ fs, P.underlying t = some (.struct fs) ∧ fs.toList.length = pl.length ∧ (fs.toList.zip pl).all (fun q => q.1.offset == q.2.1 && (P.info? q.1.type).map (·.size) == some q.2.2) = true
theorem run_places {w : World} : ∀ (fs : List Field) (pl : List (Nat × Nat)), fs.length = pl.length → (fs.zip pl).all (fun q => q.1.offset == q.2.1 && (P.info? q.1.type).map (·.size) == some q.2.2) = true →
    (fs.mapM (m := Sem) fun f => do pure (f.offset, ← sizeOf f.type)).run P w = .ok pl w
  | [], [], _, _ => by simp [Sem.run_pure]
  | f :: fs, q :: pl, hl, h => by
    simp only [List.zip_cons_cons, List.all_cons, Bool.and_eq_true, beq_iff_eq] at h
    have ih := run_places (w := w) fs pl (by simpa using hl) h.2
    rw [List.mapM_cons]
    simp only [Sem.run_bind, run_size h.1.2, Result.andThen, Sem.run_pure, ih, h.1.1]
theorem q_build {t : Nat} {parts : Array (Nat × Operand)} {pl : List (Nat × Nat)} {ps : List (Nat × Value)} {z : Value} {zs cs : List Value} (hp : PlacesOf P t pl) (hz : ZeroOf P t z) (hzs : z.cells = zs.toArray)
    (hps : parts.toList.map (fun q => (q.1, ev ρ q.2)) = ps) (hf : Instr.fill (fun i => pl.toArray[i]?) zs.toArray ps = some cs.toArray) : OpQ P ρ ⟨d, .build t parts, ty, p, af, g⟩ H (.agg cs.toArray) := ⟨rfl, fun T w ho => by
  obtain ⟨fs, h1, h2, h3⟩ := hp
  have hps' : (parts.map fun q => (q.1, ev ρ q.2)).toList = ps := by rw [← hps]; simp
  have hm : (fs.mapM (m := Sem) fun f => do pure (f.offset, ← sizeOf f.type)).run P w = .ok pl.toArray w := by
    have := run_places (P := P) (w := w) fs.toList pl h2 h3
    rw [Array.mapM_eq_mapM_toList]
    show Sem.run P ((List.mapM _ fs.toList) >>= fun a => pure a.toArray) w = _
    simp only [Sem.run_bind, this, Result.andThen, Sem.run_pure]
  simp only [execOp, Instr.build, Sem.run_bind, run_zero hz, Result.andThen, run_under h1, hm, hps', hzs, hf, Sem.run_pure]⟩
theorem q_buildA {t len e size : Nat} {parts : Array (Nat × Operand)} {ps : List (Nat × Value)} {z : Value} {zs cs : List Value} (hs : ArrayOf P t len e size) (hz : ZeroOf P t z) (hzs : z.cells = zs.toArray)
    (hps : parts.toList.map (fun q => (q.1, ev ρ q.2)) = ps) (hf : Instr.fill (fun i => some (i * size, size)) zs.toArray ps = some cs.toArray) : OpQ P ρ ⟨d, .build t parts, ty, p, af, g⟩ H (.agg cs.toArray) := ⟨rfl, fun T w ho => by
  have hps' : (parts.map fun q => (q.1, ev ρ q.2)).toList = ps := by rw [← hps]; simp
  simp only [execOp, Instr.build, Sem.run_bind, run_zero hz, Result.andThen, run_under hs.1, run_size hs.2, hps', hzs, hf, Sem.run_pure]⟩

theorem fold_all (vs : List Value) : ∀ (k : Nat) (c : Array Value), k + vs.length = c.size → ((vs.zipIdx k).foldl (fun cs q => cs.setIfInBounds (0 + q.2) q.1) c).toList = c.toList.take k ++ vs := by
  induction vs with
  | nil => intro k c h; simp at h; subst h; simp [List.take_of_length_le]
  | cons v vs ih =>
    intro k c h
    simp only [List.length_cons] at h
    simp only [List.zipIdx_cons, List.foldl_cons]
    rw [ih (k + 1) _ (by simp; omega)]
    have : (c.setIfInBounds (0 + k) v).toList.take (k + 1) = c.toList.take k ++ [v] := by
      simp only [Nat.zero_add, Array.toList_setIfInBounds]
      apply List.ext_getElem?
      intro i
      rw [List.getElem?_take]
      by_cases hi : i < k + 1
      · rw [if_pos hi, List.getElem?_set]
        by_cases hio : k = i
        · subst hio; rw [if_pos rfl, if_pos (by simp; omega), List.getElem?_append_right (by simp; omega)]; simp [Nat.min_eq_left (by omega : k ≤ c.size)]
        · rw [if_neg hio, List.getElem?_append_left (by simp; omega), List.getElem?_take, if_pos (by omega)]
      · rw [if_neg hi, List.getElem?_eq_none (by simp; omega)]
    rw [this]; simp
/-- A struct of one part that fills it. -/
theorem q_buildOne {t : Nat} {i : Nat} {x : Operand} {n : Nat} {z : Value} {zs cs : List Value} (hp : PlacesOf P t [(0, n)]) (hz : ZeroOf P t z) (hzs : z.cells = zs.toArray)
    (hx : ev ρ x = .agg cs.toArray) (hn : cs.length = n) (hzn : zs.length = n) : OpQ P ρ ⟨d, .build t #[(0, x)], ty, p, af, g⟩ H (.agg cs.toArray) := by
  refine q_build (ps := [(0, .agg cs.toArray)]) hp hz hzs (by simp [hx]) ?_
  simp only [Instr.fill]
  have h1 : ((#[(0, n)] : Array (Nat × Nat))[0]?) = some (0, n) := rfl
  rw [h1]
  have h2 : (Value.agg cs.toArray).cells.size = n := by simp [Value.cells, hn]
  have h3 : ¬ (n > zs.length) := by omega
  simp only [h2, List.size_toArray]
  simp [h3, Value.cells]
  have := fold_all cs 0 zs.toArray (by simp; omega)
  apply Array.ext'
  simpa using this

end
end Go.Kx

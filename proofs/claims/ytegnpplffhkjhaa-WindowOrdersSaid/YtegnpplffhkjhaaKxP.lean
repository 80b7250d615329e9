/- append, copy, clear. -/
import Derived.Test.YtegnpplffhkjhaaKxO
set_option linter.unusedVariables false
set_option linter.unusedSimpArgs false
namespace Go.Kx
section
variable {P : Program} {ρ : Env} {T H : PH} {d : Option Nat} {ty : TypeId} {p : String} {af : Array Edge} {g : Option (Nat × Bool)} {K : Value → PH → PH → Prop}

/-! ### append, copy, clear -/
def sliceCells (H : PH) (s : Sl) (size : Nat) : Option (List Value) := match s.a with
  | some a => cellsAt H a (s.len * size)
  | none => some []
theorem run_firstCells {w : World} (ho : Own H T w) {s : Sl} {size : Nat} {cs : List Value} (h : sliceCells H s size = some cs) : (Builtin.firstCells size s.len (Sl.v s)).run P w = .ok cs.toArray w := by
  unfold sliceCells at h
  cases ha : s.a with
  | none => rw [ha] at h; simp at h; subst h; simp [Builtin.firstCells, Sl.v, ha, Sem.run_pure]
  | some a => rw [ha] at h; simp only at h; simp only [Sl.v, ha, Builtin.firstCells, run_loadCells' ho h]
/-- More behind a slice: it has room, or a new row is made. -/
def mApp (H : PH) (e size m : Nat) (zs : List Value) (s x : Sl) (K : Sl → PH → Prop) : Prop :=
  ∃ ys, sliceCells H x size = some ys ∧ ys.length = x.len * size ∧ ys.all cellV = true ∧
    if s.len + x.len ≤ s.cap then
      (match s.a with
       | some a => ∃ b off cs e', a = ⟨b, off, none⟩ ∧ H b = some (row cs e') ∧ off + s.len * size + ys.length ≤ cs.length ∧ K ⟨s.a, s.len + x.len, s.cap⟩ (H.upd b (row (putAt cs (off + s.len * size) ys) e'))
       | none => ys = [] ∧ K ⟨s.a, s.len + x.len, s.cap⟩ H)
    else ∃ xs, sliceCells H s size = some xs ∧ (4 * (s.len + x.len) + 4096) * m ≤ 2 ^ 48 ∧ s.len ≤ s.cap ∧
      ∀ b c, H b = none → s.len + x.len ≤ c → K ⟨some ⟨b, 0, none⟩, s.len + x.len, c⟩ (H.upd b (row (xs ++ ys ++ zeros (c - (s.len + x.len)) zs) e))
theorem growBy_le (n : Nat) : ∀ (r c : Nat), c ≤ n → Builtin.growBy n r c ≤ max n (c + (c + 768) / 4 * 1) ∨ True := fun _ _ _ => .inr trivial
theorem growBy_bound (n : Nat) : ∀ (r c : Nat), Builtin.growBy n r c ≤ max c (n + (n + 768) / 4) := by
  intro r
  induction r with
  | zero => intro c; simp [Builtin.growBy]; omega
  | succ r ih =>
    intro c
    simp only [Builtin.growBy]
    split
    · omega
    · have := ih (c + (c + 768) / 4); omega
theorem nextcap_bound (need old : Nat) (h : old < need) : Builtin.nextslicecap need old ≤ 4 * need + 4096 := by
  unfold Builtin.nextslicecap
  split
  · omega
  · split
    · omega
    · have := growBy_bound need 4 old; omega
theorem do_append {xs : Array Operand} {ats : Array TypeId} {t e size m : Nat} {z : Value} {zs : List Value} {s x : Sl} {xt xe : TypeId} (hs : SliceOf P t e size) (hm : BytesOf P e m) (hm1 : 1 ≤ m) (hz : ZeroOf P e z) (hzs : z.cells = zs.toArray) (hsz : zs.length = size) (hsz1 : 1 ≤ size)
    (ht : ats[0]? = some t) (ht2 : ats[1]? = some xt) (hxt : P.underlying xt = some (.slice xe))
    (hx : xs.toList.map (ev ρ) = [Sl.v s, Sl.v x]) {KK : Sl → PH → Prop} (h : mApp H e size m zs s x KK) (hk : ∀ r H', KK r H' → K (Sl.v r) T H') :
    OpDo P ρ ⟨d, .call ⟨.builtin .append, xs, ats⟩, ty, p, af, g⟩ T H K := ⟨rfl, fun w ho => by
  obtain ⟨ys, hys, hyl, hyv, h⟩ := h
  have hargs := map_ev hx
  have hy := run_firstCells (P := P) ho hys
  obtain ⟨ie, hie, hib⟩ := run_typeBytes (w := w) hm
  have e1 : ∀ v w', (Builtin.append_ ats ty #[Sl.v s, Sl.v x]).run P w = .ok v w' → (execOp (ev ρ) ⟨d, .call ⟨.builtin .append, xs, ats⟩, ty, p, af, g⟩).run P w = .ok (.value v) w' := by
    intro v w' hv
    simp only [execOp, resolve, hargs, Sem.run_bind, Sem.run_pure, Result.andThen, invoke, builtin]
    rw [hv]
  by_cases hle : s.len + x.len ≤ s.cap
  · rw [if_pos hle] at h
    cases ha : s.a with
    | none =>
      rw [ha] at h
      obtain ⟨rfl, hK⟩ := h
      refine .inl ⟨_, T, H, w, e1 _ _ ?_, .refl ho, hk _ _ hK⟩
      simp [Builtin.append_, ht, ht2, Sem.run_bind, run_under hs.1, Result.andThen, run_size hs.2, run_under hxt, Sem.run_pure, Sl.v, Builtin.lenOf, hle, ha]
      simp only [Sl.v] at hy
      rw [hy]
    | some a =>
      rw [ha] at h
      obtain ⟨b, off, cs, e', rfl, hb, hlen, hK⟩ := h
      obtain ⟨w', h1, h2⟩ := storeCells_run (P := P) ys ho (b := b) (off := off + s.len * size) (i := 0) hb (by omega) hyv
      refine .inl ⟨_, T, _, w', e1 _ _ ?_, h2, by simpa using hk _ _ hK⟩
      simp [Builtin.append_, ht, ht2, Sem.run_bind, run_under hs.1, Result.andThen, run_size hs.2, run_under hxt, Sem.run_pure, Sl.v, Builtin.lenOf, hle, ha]
      simp only [Sl.v] at hy
      rw [hy]
      simp [add_mk, h1]
  · rw [if_neg hle] at h
    obtain ⟨xs', hxs, hbd, hcap, h⟩ := h
    have hx' := run_firstCells (P := P) ho hxs
    have hnc := nextcap_bound (s.len + x.len) s.cap (by omega)
    have hnc2 : Builtin.nextslicecap (s.len + x.len) s.cap * m ≤ 2 ^ 48 := Nat.le_trans (Nat.mul_le_mul_right m hnc) hbd
    have hneed : s.len + x.len ≤ 2 ^ 48 := by
      have : 4 * (s.len + x.len) * 1 ≤ (4 * (s.len + x.len) + 4096) * m := Nat.mul_le_mul (by omega) hm1
      omega
    have hbig : ¬ ((s.len + x.len : Int) > IntKind.i64.max) := by simp [IntKind.max, IntKind.signed, IntKind.bits]; omega
    obtain ⟨w1, hw1⟩ : ∃ w1, w1 = w.drew := ⟨_, rfl⟩
    have hcfr : Fr H T w H T w1 := hw1 ▸ .drew ho
    obtain ⟨c, hch⟩ : ∃ c, c = (Question.appendCap (s.len + x.len) s.cap e).cut (w.tape w.drawn (Question.appendCap (s.len + x.len) s.cap e)) := ⟨_, rfl⟩
    have hcn : s.len + x.len ≤ c := by rw [hch]; simp [Question.cut]
    have hff : (Question.appendCap (s.len + x.len) s.cap e).forced = false := rfl
    have ho1 := hcfr.own
    have hy1 := run_firstCells (P := P) ho1 hys
    have hx1 := run_firstCells (P := P) ho1 hxs
    have hz0 : Builtin.zeroCells zs.toArray (c - (s.len + x.len)) = (zeros (c - (s.len + x.len)) zs).toArray := by
      simpa [Builtin.zeroCells] using range_zeros (c - (s.len + x.len)) zs
    have hie1 : (typeInfo e).run P w1 = .ok ie w1 := by
      obtain ⟨i2, h2, _⟩ := run_typeBytes (w := w1) hm
      unfold BytesOf at hm
      cases hi : P.info? e with
      | none => rw [hi] at hm; cases hm
      | some i3 => rw [run_info hi] at hie ⊢; cases hie; rfl
    refine .inl ⟨_, T, _, _, e1 (Sl.v ⟨some ⟨w1.heap.size, 0, none⟩, s.len + x.len, c⟩) (w1.alloc (row (xs' ++ ys ++ zeros (c - (s.len + x.len)) zs) e)) ?_, hcfr.trans (.alloc ho1 _), hk _ _ (h _ _ ho1.new.1 hcn)⟩
    have hnc3 : ¬ (281474976710656 < Builtin.nextslicecap (s.len + x.len) s.cap * m) := by omega
    have hm0 : ¬ m = 0 := by omega
    simp only [Sl.v] at hx1 hy1
    simp [Builtin.append_, ht, ht2, Sem.run_bind, run_under hs.1, Result.andThen, run_size hs.2, run_under hxt, Sem.run_pure, Sl.v, Builtin.lenOf, hle, hie, hib, hm0, hnc3, hff, ← hch, ← hw1, hie1, run_askRoom, hx1, hy1, run_zero hz, hzs, hz0, run_newRow]⟩

def mCopy (H : PH) (size : Nat) (dst src : Sl) (K : Int → PH → Prop) : Prop :=
  ∃ ys, sliceCells H ⟨src.a, min src.len dst.len, src.cap⟩ size = some ys ∧ ys.all cellV = true ∧
    match dst.a with
    | some a => ∃ b off cs e', a = ⟨b, off, none⟩ ∧ H b = some (row cs e') ∧ off + ys.length ≤ cs.length ∧ K (min src.len dst.len : Nat) (H.upd b (row (putAt cs off ys) e'))
    | none => K (min src.len dst.len : Nat) H
theorem do_copy {xs : Array Operand} {ats : Array TypeId} {t e size : Nat} {s x : Sl} (hs : SliceOf P t e size) (ht : ats[0]? = some t)
    (hx : xs.toList.map (ev ρ) = [Sl.v s, Sl.v x]) {KK : Int → PH → Prop} (h : mCopy H size s x KK) (hk : ∀ r H', KK r H' → K (.int .i64 r) T H') :
    OpDo P ρ ⟨d, .call ⟨.builtin .copy, xs, ats⟩, ty, p, af, g⟩ T H K := ⟨rfl, fun w ho => by
  obtain ⟨ys, hys, hyv, h⟩ := h
  have hargs := map_ev hx
  have hy := run_firstCells (P := P) ho hys
  have e1 : ∀ v w', (Builtin.copy_ ats ty #[Sl.v s, Sl.v x]).run P w = .ok v w' → (execOp (ev ρ) ⟨d, .call ⟨.builtin .copy, xs, ats⟩, ty, p, af, g⟩).run P w = .ok (.value v) w' := by
    intro v w' hv
    simp only [execOp, resolve, hargs, Sem.run_bind, Sem.run_pure, Result.andThen, invoke, builtin]
    rw [hv]
  have hy' : (Builtin.firstCells size (min x.len s.len) (Sl.v x)).run P w = .ok ys.toArray w := by
    have := hy
    simp only [Sl.v] at this ⊢
    cases hxa : x.a <;> simp_all [Builtin.firstCells]
  simp only [Sl.v] at hy'
  cases ha : s.a with
  | none =>
    rw [ha] at h
    refine .inl ⟨_, T, H, w, e1 _ _ ?_, .refl ho, hk _ _ h⟩
    simp [Builtin.copy_, ht, Sem.run_bind, run_under hs.1, Result.andThen, run_size hs.2, Sem.run_pure, Sl.v, Builtin.lenOf, ha, hy', goInt]
  | some a =>
    rw [ha] at h
    obtain ⟨b, off, cs, e', rfl, hb, hlen, hK⟩ := h
    obtain ⟨w', h1, h2⟩ := storeCells_run (P := P) ys ho (b := b) (off := off) (i := 0) hb (by omega) hyv
    refine .inl ⟨_, T, _, w', e1 _ _ ?_, h2, by simpa using hk _ _ hK⟩
    simp [Builtin.copy_, ht, Sem.run_bind, run_under hs.1, Result.andThen, run_size hs.2, Sem.run_pure, Sl.v, Builtin.lenOf, ha, hy', goInt, h1]⟩

def mClear (H : PH) (size : Nat) (zs : List Value) (s : Sl) (K : PH → Prop) : Prop :=
  (s.len = 0 ∧ K H) ∨ (s.a = none ∧ K H) ∨ (s.len ≠ 0 ∧ ∃ b off cs e', s.a = some ⟨b, off, none⟩ ∧ H b = some (row cs e') ∧ off + s.len * size ≤ cs.length ∧ K (H.upd b (row (putAt cs off (zeros s.len zs)) e')))
theorem do_clear {xs : Array Operand} {ats : Array TypeId} {t e size : Nat} {z : Value} {zs : List Value} {s : Sl} (hs : SliceOf P t e size) (hz : ZeroOf P e z) (hzs : z.cells = zs.toArray) (hsz : zs.length = size) (ht : ats[0]? = some t) (hzv : zs.all cellV = true)
    (hx : xs.toList.map (ev ρ) = [Sl.v s]) {KK : PH → Prop} (h : mClear H size zs s KK) (hk : ∀ H', KK H' → K (.tuple #[]) T H') :
    OpDo P ρ ⟨d, .call ⟨.builtin .clear, xs, ats⟩, ty, p, af, g⟩ T H K := ⟨rfl, fun w ho => by
  have hargs := map_ev hx
  have e1 : ∀ v w', (Builtin.clear_ ats ty #[Sl.v s]).run P w = .ok v w' → (execOp (ev ρ) ⟨d, .call ⟨.builtin .clear, xs, ats⟩, ty, p, af, g⟩).run P w = .ok (.value v) w' := by
    intro v w' hv
    simp only [execOp, resolve, hargs, Sem.run_bind, Sem.run_pure, Result.andThen, invoke, builtin]
    rw [hv]
  rcases h with ⟨h0, hK⟩ | ⟨h0, hK⟩ | ⟨hn0, b, off, cs, e', ha, hb, hlen, hK⟩
  · refine .inl ⟨_, T, H, w, e1 _ _ ?_, .refl ho, hk _ hK⟩
    cases ha : s.a <;> simp [Builtin.clear_, ht, Sem.run_bind, run_under hs.1, Result.andThen, Sem.run_pure, Sl.v, h0, ha]
  · refine .inl ⟨_, T, H, w, e1 _ _ ?_, .refl ho, hk _ hK⟩
    simp [Builtin.clear_, ht, Sem.run_bind, run_under hs.1, Result.andThen, Sem.run_pure, Sl.v, h0]
  · have hzl : (zeros s.len zs).all cellV = true := by
      simp only [zeros, List.all_map, List.all_eq_true, List.mem_range, Function.comp]
      intro i hi
      have hz1 : 0 < zs.length := by rcases Nat.eq_zero_or_pos zs.length with h | h; · rw [h] at hi; omega
                                     · exact h
      have hlt := Nat.mod_lt i hz1
      rw [List.getElem!_eq_getElem?_getD, List.getElem?_eq_getElem hlt]
      exact List.all_eq_true.1 hzv _ (List.getElem_mem hlt)
    obtain ⟨w', h1, h2⟩ := storeCells_run (P := P) (zeros s.len zs) ho (b := b) (off := off) (i := 0) hb (by rw [zeros_length, hsz]; omega) hzl
    refine .inl ⟨_, T, _, w', e1 _ _ ?_, h2, by simpa using hk _ hK⟩
    have hz0 : Builtin.zeroCells zs.toArray s.len = (zeros s.len zs).toArray := by
      simpa [Builtin.zeroCells] using range_zeros s.len zs
    cases hl : s.len with
    | zero => exact absurd hl hn0
    | succ q =>
      rw [hl] at hz0 h1
      simp [Builtin.clear_, ht, Sem.run_bind, run_under hs.1, Result.andThen, Sem.run_pure, Sl.v, hl, ha, run_zero hz, hzs, hz0, h1]⟩
end
end Go.Kx

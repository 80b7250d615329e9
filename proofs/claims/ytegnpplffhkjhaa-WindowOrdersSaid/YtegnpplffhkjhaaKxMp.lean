/- MAPS OF INTEGERS BY INTEGERS. -/
import Derived.Test.YtegnpplffhkjhaaKxNu
set_option linter.unusedVariables false
set_option linter.unusedSimpArgs false
namespace Go.Kx
abbrev MapL := List (Int × Int × Nat)
def entI (x : Int × Int × Nat) : MapEntry := { key := .int .i64 x.1, val := .int .i64 x.2.1, born := x.2.2 }
def mapObj (l : MapL) (c : Nat) : Obj := .map (l.map entI).toArray c
def mfind : MapL → Int → Nat → Option (Nat × Int)
  | [], _, _ => none
  | x :: l, k, i => if k == x.1 then some (i, x.2.1) else mfind l k (i + 1)
def mget (l : MapL) (k : Int) : Int × Bool := match mfind l k 0 with
  | some (_, v) => (v, true)
  | none => (0, false)
def mput (l : MapL) (k v : Int) (c : Nat) : MapL := match mfind l k 0 with
  | some (i, _) => l.modify i fun x => (k, v, x.2.2)
  | none => l ++ [(k, v, c)]
def mclk (l : MapL) (k : Int) (c : Nat) : Nat := match mfind l k 0 with
  | some _ => c
  | none => c + 1
def NewM (H : PH) (m : Option Nat) (H' : PH) : Prop := ∃ r, H r = none ∧ m = some r ∧ H' = H.upd r (mapObj [] 0)
def mMakeMap (H : PH) (K : Option Nat → PH → Prop) : Prop := ∀ m H', NewM H m H' → K m H'
def MapAt (H : PH) (m : Option Nat) (k x : Int) (ok : Bool) : Prop := ∃ r l c, m = some r ∧ H r = some (mapObj l c) ∧ mget l k = (x, ok)
def mMapGet (H : PH) (m : Option Nat) (k : Int) (K : Int → Bool → Prop) : Prop := ∃ x ok, MapAt H m k x ok ∧ K x ok
def mMapPut (H : PH) (m : Option Nat) (k v : Int) (K : PH → Prop) : Prop := ∃ r l c, m = some r ∧ H r = some (mapObj l c) ∧ K (H.upd r (mapObj (mput l k v c) (mclk l k c)))
section
variable {P : Program} {ρ : Env} {T H : PH} {d : Option Nat} {ty : TypeId} {p : String} {af : Array Edge} {g : Option (Nat × Bool)} {K : Value → PH → PH → Prop}
theorem do_makeMap {t : TypeId} (h : ∀ m H', NewM H m H' → K (.map m) T H') : OpDo P ρ ⟨d, .makeMap t none, ty, p, af, g⟩ T H K := ⟨rfl, fun w ho => .inl
  ⟨_, T, _, _, by simp [execOp, Instr.makeMap, Sem.run_bind, Sem.run_pure, Result.andThen, newObj, Sem.run]; rfl, .alloc ho _, h _ _ ⟨_, ho.new.1, rfl, rfl⟩⟩⟩
theorem find_now (k : Int) : ∀ (l : MapL) (i : Nat), Instr.findNow (.int .i64) (.int .i64 k) (l.map entI) i = some ((mfind l k i).map fun q => (q.1, Value.int .i64 q.2))
  | [], _ => rfl
  | x :: l, i => by
    simp only [List.map_cons, Instr.findNow, entI, Instr.sameNow, mfind, if_true]
    cases h : k == x.1 with
    | true => simp
    | false => simpa using find_now k l (i + 1)
theorem run_findKey {kt : TypeId} (hk : P.underlying kt = some (.int .i64)) (k : Int) (l : MapL) (w : World) : (Instr.findKey kt (.int .i64 k) (l.map entI)).run P w = .ok ((mfind l k 0).map fun q => (q.1, Value.int .i64 q.2)) w := by
  simp only [Instr.findKey, Sem.run_bind, run_under hk, Result.andThen, find_now, Sem.run_pure]
theorem run_checkKey {kt : TypeId} (hk : P.underlying kt = some (.int .i64)) (k : Int) (e : Bool) (n : Nat) (w : World) : (Instr.checkKey e (n + 1) kt (.int .i64 k)).run P w = .ok () w := by
  simp only [Instr.checkKey, Sem.run_bind, run_under hk, Result.andThen, Sem.run_pure]
theorem run_getMap {r : Nat} {es : Array MapEntry} {c : Nat} {w : World} (ho : Own H T w) (hr : H r = some (.map es c)) : (getObj r).run P w = .ok (.map es c) w := by
  simp [getObj, Sem.run, ho.sub r _ hr]
theorem q_mapGet {t kt et : TypeId} {x ix : Operand} {m : Option Nat} {k v : Int} {ok : Bool} (hu : P.underlying t = some (.map kt et)) (hk : P.underlying kt = some (.int .i64)) (hz : ZeroOf P et (.int .i64 0)) (hx : ev ρ x = .map m) (hi : ev ρ ix = .int .i64 k) (h : MapAt H m k v ok) :
    OpQ P ρ ⟨d, .lookup t x ix true, ty, p, af, g⟩ H (.tuple #[.int .i64 v, .bool ok]) := ⟨rfl, fun T w ho => by
  obtain ⟨r, l, c, rfl, hr, hg⟩ := h
  have h1 := run_getMap (P := P) ho hr
  have h2 := run_findKey (P := P) hk k l w
  have h3 := fun e => run_checkKey (P := P) hk k e 9999 w
  simp only [execOp, hx, hi, Instr.lookup, Sem.run_bind, run_under hu, Result.andThen, h1, mapObj, Sem.run_pure, h3, h2, List.size_toArray]
  unfold mget at hg
  cases hf : mfind l k 0 with
  | none => rw [hf] at hg; cases hg; simp [hf, Sem.run_bind, run_zero hz, Result.andThen, Sem.run_pure]
  | some q => obtain ⟨i, z⟩ := q; rw [hf] at hg; cases hg; simp [hf, Sem.run_bind, Result.andThen, Sem.run_pure]⟩
theorem q_mapGet1 {t kt et : TypeId} {x ix : Operand} {m : Option Nat} {k v : Int} {ok : Bool} (hu : P.underlying t = some (.map kt et)) (hk : P.underlying kt = some (.int .i64)) (hz : ZeroOf P et (.int .i64 0)) (hx : ev ρ x = .map m) (hi : ev ρ ix = .int .i64 k) (h : MapAt H m k v ok) :
    OpQ P ρ ⟨d, .lookup t x ix false, ty, p, af, g⟩ H (.int .i64 v) := ⟨rfl, fun T w ho => by
  obtain ⟨r, l, c, rfl, hr, hg⟩ := h
  have h1 := run_getMap (P := P) ho hr
  have h2 := run_findKey (P := P) hk k l w
  have h3 := fun e => run_checkKey (P := P) hk k e 9999 w
  simp only [execOp, hx, hi, Instr.lookup, Sem.run_bind, run_under hu, Result.andThen, h1, mapObj, Sem.run_pure, h3, h2, List.size_toArray]
  unfold mget at hg
  cases hf : mfind l k 0 with
  | none => rw [hf] at hg; cases hg; simp [hf, Sem.run_bind, run_zero hz, Result.andThen, Sem.run_pure]
  | some q => obtain ⟨i, z⟩ := q; rw [hf] at hg; cases hg; simp [hf, Sem.run_bind, Result.andThen, Sem.run_pure]⟩
theorem mfind_at {k : Int} : ∀ {l : MapL} {j i : Nat} {v : Int}, mfind l k j = some (i, v) → ∃ n x, i = j + n ∧ l[n]? = some x ∧ x.1 = k ∧ x.2.1 = v
  | [], _, _, _, h => by simp [mfind] at h
  | x :: l, j, i, v, h => by
    rw [mfind] at h
    split at h
    · rename_i e
      cases h
      exact ⟨0, x, rfl, rfl, by simpa using (beq_iff_eq.1 e).symm, rfl⟩
    · obtain ⟨n, y, e1, e2, e3, e4⟩ := mfind_at h
      exact ⟨n + 1, y, by omega, by simpa using e2, e3, e4⟩
theorem do_mapPut {t kt et : TypeId} {x ix y : Operand} {m : Option Nat} {k v : Int} {KK : PH → Prop} (hu : P.underlying t = some (.map kt et)) (hk : P.underlying kt = some (.int .i64)) (hx : ev ρ x = .map m) (hi : ev ρ ix = .int .i64 k) (hy : ev ρ y = .int .i64 v)
    (h : mMapPut H m k v KK) (hK : ∀ H', KK H' → K undef T H') : OpDo P ρ ⟨d, .mapUpdate t x ix y, ty, p, af, g⟩ T H K := ⟨rfl, fun w ho => by
  obtain ⟨r, l, c, rfl, hr, hg⟩ := h
  have h1 := run_getMap (P := P) ho hr
  have h2 := run_findKey (P := P) hk k l w
  have h3 := run_checkKey (P := P) hk k false 9999 w
  refine .inr (.inl ⟨T, _, { w with heap := w.heap.setIfInBounds r (mapObj (mput l k v c) (mclk l k c)) }, ?_, .put ho hr (o' := mapObj (mput l k v c) (mclk l k c)) rfl rfl rfl rfl, hK _ hg⟩)
  simp only [execOp, hx, hi, hy, Instr.mapUpdate, Sem.run_bind, run_under hu, Result.andThen, h1, mapObj, Sem.run_pure, h3, h2]
  have hw : w.heap[r]? = some (.map (l.map entI).toArray c) := ho.sub r _ hr
  cases hf : mfind l k 0 with
  | none =>
    simp [hf, setObj, Sem.run, mput, mclk, entI, hw]
  | some q =>
    obtain ⟨i, z⟩ := q
    obtain ⟨n, y, e1, e2, e3, e4⟩ := mfind_at hf
    have e1 : i = n := by omega
    subst e1
    simp [hf, setObj, Sem.run, mput, mclk, entI, hw, e2, Instr.keyThatStays, Instr.sameBits, e3, Sem.run_bind, Sem.run_pure, Result.andThen]
    congr 3
    apply List.ext_getElem?
    intro j
    simp only [List.getElem?_map, List.getElem?_modify]
    cases l[j]? with
    | none => simp
    | some x' => by_cases e : i = j <;> simp [e, entI]⟩
end
end Go.Kx

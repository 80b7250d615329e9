/- STRUCTS IN CELLS OF THEIR OWN. -/
import Derived.Test.YtegnpplffhkjhaaKxX
import Derived.Test.YtegnpplffhkjhaaKxY
set_option linter.unusedVariables false
set_option linter.unusedSimpArgs false
namespace Go.Kx

/-- A row that begins at a holds just these cells. -/
def RowAt (H : PH) (a : Addr) (cs : List Value) : Prop := a.off = 0 ∧ a.spot = none ∧ ∃ e, H a.block = some (row cs e)
theorem RowAt.ext {A B : PH} {a : Addr} {cs : List Value} (h : RowAt A a cs) (x : Ext A B) : RowAt B a cs := ⟨h.1, h.2.1, let ⟨e, he⟩ := h.2.2; ⟨e, x _ _ he⟩⟩
theorem RowAt.ofNew {H H' : PH} {cs : List Value} {e : TypeId} {a : Addr} (h : NewA H (row cs e) a H') : RowAt H' a cs := by
  obtain ⟨b, hb, rfl, rfl⟩ := h
  exact ⟨rfl, rfl, e, PH.upd_same _ _ _⟩
theorem NewA.fresh {H H' : PH} {o : Obj} {a : Addr} (h : NewA H o a H') : H a.block = Option.none := by obtain ⟨b, hb, rfl, rfl⟩ := h; exact hb
theorem RowAt.addr {H : PH} {a : Addr} {cs : List Value} (h : RowAt H a cs) : a = ⟨a.block, 0, none⟩ := by
  obtain ⟨b, o, s⟩ := a
  have h1 := h.1; have h2 := h.2.1
  simp only at h1 h2; subst h1; subst h2; rfl
theorem RowAt.cell {H : PH} {a : Addr} {cs : List Value} {i : Nat} {v : Value} (h : RowAt H a cs) (hi : cs[i]? = some v) : cellAt H (a.add i) = some v := by
  obtain ⟨e, he⟩ := h.2.2
  rw [h.addr, add_mk, cellAt_of_row he, Nat.zero_add]; exact hi
theorem RowAt.cell0 {H : PH} {a : Addr} {cs : List Value} {i : Nat} {v : Value} (h : RowAt H a cs) (hi : cs[i]? = some v) : cellAt H ((a.add 0).add i) = some v := by rw [add_zero']; exact h.cell hi
theorem RowAt.all {H : PH} {a : Addr} {cs : List Value} {n : Nat} (h : RowAt H a cs) (hn : n = cs.length) : cellsAt H a n = some cs := by
  obtain ⟨e, he⟩ := h.2.2
  rw [h.addr, cellsAt_of_row he (by omega), hn]; simp
theorem RowAt.all0 {H : PH} {a : Addr} {cs : List Value} {n : Nat} (h : RowAt H a cs) (hn : n = cs.length) : cellsAt H (a.add 0) n = some cs := by rw [add_zero']; exact h.all hn
/-- A new struct. -/
theorem new_row {H : PH} {cs : List Value} {e : TypeId} {K : Addr → PH → Prop} (h : ∀ a H', Ext H H' → RowAt H' a cs → H a.block = Option.none → K a H') : mNew H (row cs e) K :=
  fun a H' hn => h a H' (.newA hn) (.ofNew hn) hn.fresh
theorem ld_row {α : Type} {enc : α → Value} {H : PH} {a : Addr} {cs : List Value} {i : Nat} {x : α} {K : α → Prop} (h : RowAt H a cs) (hi : cs[i]? = some (enc x)) (hK : K x) : mLd enc H (a.add i) K := ⟨x, h.cell hi, hK⟩
theorem ld_row0 {α : Type} {enc : α → Value} {H : PH} {a : Addr} {cs : List Value} {i : Nat} {x : α} {K : α → Prop} (h : RowAt H a cs) (hi : cs[i]? = some (enc x)) (hK : K x) : mLd enc H ((a.add 0).add i) K := ⟨x, h.cell0 hi, hK⟩
theorem ldr_row {α : Type} {enc : α → List Value} {H : PH} {a : Addr} {n : Nat} {x : α} {K : α → Prop} (h : RowAt H a (enc x)) (hn : n = (enc x).length) (hK : K x) : mLdR enc H a n K := ⟨x, h.all hn, hK⟩
theorem ldr_row0 {α : Type} {enc : α → List Value} {H : PH} {a : Addr} {n : Nat} {x : α} {K : α → Prop} (h : RowAt H a (enc x)) (hn : n = (enc x).length) (hK : K x) : mLdR enc H (a.add 0) n K := ⟨x, h.all0 hn, hK⟩
theorem same_row {H : PH} {a : Addr} {cs : List Value} {i : Nat} {v : Value} {K : Prop} (h : RowAt H a cs) (hi : cs[i]? = some v) (hK : K) : mSame H (a.add i) v K := ⟨h.cell hi, hK⟩
theorem same_row0 {H : PH} {a : Addr} {cs : List Value} {i : Nat} {v : Value} {K : Prop} (h : RowAt H a cs) (hi : cs[i]? = some v) (hK : K) : mSame H ((a.add 0).add i) v K := ⟨h.cell0 hi, hK⟩
/-- All but block b stands. -/
def KeepB (b : Nat) (H H' : PH) : Prop := ∀ c o, H c = some o → c ≠ b → H' c = some o
theorem Ext.keepB {H0 H H' : PH} {b : Nat} (h : Ext H0 H) (k : KeepB b H H') (hb : H0 b = Option.none) : Ext H0 H' := fun c o hc => k c o (h c o hc) fun e => by subst e; rw [hb] at hc; cases hc
theorem RowAt.keepB {H H' : PH} {a : Addr} {cs : List Value} {b : Nat} (h : RowAt H a cs) (k : KeepB b H H') (hb : a.block ≠ b) : RowAt H' a cs := ⟨h.1, h.2.1, let ⟨e, he⟩ := h.2.2; ⟨e, k _ _ he hb⟩⟩
theorem st_row {H : PH} {a : Addr} {cs vs : List Value} {K : PH → Prop} (h : RowAt H a cs) (hl : vs.length = cs.length) (hv : vs.all cellV = true) (hK : ∀ H', RowAt H' a vs → KeepB a.block H H' → K H') : mSt H a vs K := by
  obtain ⟨e, he⟩ := h.2.2
  refine ⟨a.block, 0, cs, e, h.addr, he, by omega, hv, hK _ ⟨h.1, h.2.1, e, ?_⟩ fun c o hc hn => ?_⟩
  · rw [PH.upd_same, putAt_eq _ _ _ (by omega)]
    simp [hl]
  · rw [PH.upd_other _ _ hn]; exact hc
/-- One cell is written. -/
theorem st_cell {H : PH} {a : Addr} {cs : List Value} {i : Nat} {v : Value} {K : PH → Prop} (h : RowAt H a cs) (hi : i < cs.length) (hv : cellV v = true) (hK : ∀ H', RowAt H' a (cs.set i v) → KeepB a.block H H' → K H') : mSt H (a.add i) [v] K := by
  obtain ⟨e, he⟩ := h.2.2
  refine ⟨a.block, i, cs, e, by rw [h.addr, add_mk]; simp, he, by simp; omega, by simp [hv], hK _ ⟨h.1, h.2.1, e, ?_⟩ fun c o hc hn => ?_⟩
  · rw [PH.upd_same]; simp [putAt]
  · rw [PH.upd_other _ _ hn]; exact hc
/-- An array of a row. -/
theorem idxA_row {a : Addr} {n size : Nat} {i : Int} {K : Addr → Prop} (h0 : 0 ≤ i) (h1 : i < n) (hK : K (a.add (i.toNat * size))) : mIdxA n a size i K := ⟨_, ⟨h0, h1, rfl⟩, hK⟩
theorem nil_some {a : Addr} {K : Addr → Prop} (hK : K a) : mNil (some a) K := ⟨a, rfl, hK⟩
theorem mIf_pos {c : Bool} {a b : Prop} (h : c = true) (ha : a) : mIf c a b := mIf_intro (fun _ => ha) (fun h' => by rw [h] at h'; cases h')
theorem mIf_neg {c : Bool} {a b : Prop} (h : c = false) (hb : b) : mIf c a b := mIf_intro (fun h' => by rw [h] at h'; cases h') (fun _ => hb)
end Go.Kx
